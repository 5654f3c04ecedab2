/- matrix: reduce. Conditions: few rows and columns, numbers of at most 2^36 digits. matrix: Reduce. Conditions: few rows and columns, numbers of at most 2^36 digits. Solve, as lists. Conditions: none. matrix: Null; slices.Contains. Conditions: few rows and columns, numbers of few digits. Rows turned as law 06 turns them. Conditions: none. Bounds of determinants and products, for law 06. Conditions: none. -/
import Derived.Test.YtjbhcniiioepgaaNuO
namespace Go.Lin
/-- Bounds that the second phase wants. -/
theorem elim_bounds2 {n c B t i col : Nat} {m : Mat} (hs : Shp n c m) (h : HB B m) (ht : t < n) (hi : i < n) (hit : i ≠ t) (hB : 7 * B ≤ 68719476736) :
    Go.Rep.BR 68719476736 ((divL m t col).getD i []) ∧ Go.Rep.BR 68719476736 ((divL m t col).getD t []) ∧ Go.Lim.hq (((divL m t col).getD i []).getD col 0 / ((divL m t col).getD t []).getD col 0) ≤ 68719476736 ∧ ∀ x ∈ (divL m t col).getD t [], Go.Lim.hq (((divL m t col).getD i []).getD col 0 / ((divL m t col).getD t []).getD col 0 * x) ≤ 68719476736 := by
  have h2 := h.divL hs ht col
  have hrow : ∀ k, Go.Rep.BR (2 * B) ((divL m t col).getD k []) := fun k q hq => by
    obtain ⟨j, hj, rfl⟩ := List.getElem_of_mem hq
    have e : ((divL m t col).getD k []).getD j 0 = ((divL m t col).getD k [])[j] := by rw [List.getD_eq_getElem?_getD, List.getElem?_eq_getElem hj]; rfl
    rw [← e]; exact h2 k j
  have h1 : Go.Lim.hq (((divL m t col).getD i []).getD col 0) ≤ B := by
    have := ent_divL hs ht col i col
    rw [if_neg hit] at this
    unfold ent at this
    rw [this]; exact h i col
  have h3 : Go.Lim.hq (((divL m t col).getD t []).getD col 0) ≤ 2 * B := h2 t col
  have h4 := Go.Lim.hq_div (((divL m t col).getD i []).getD col 0) (((divL m t col).getD t []).getD col 0)
  refine ⟨fun q hq => Nat.le_trans (hrow i q hq) (by omega), fun q hq => Nat.le_trans (hrow t q hq) (by omega), by omega, fun x hx => ?_⟩
  have h5 := hrow t x hx
  have h6 := Go.Lim.hq_mul (((divL m t col).getD i []).getD col 0 / ((divL m t col).getD t []).getD col 0) x
  omega
end Go.Lin
namespace Go.Rep
theorem run_slice_to {P : Program} {t e sz by_ : Nat} {z : Value} {ao : Option Addr} (T : SliceT P t e sz by_ z) (len cap : Nat) (k1 : IntKind) (i : Nat) (h1 : i ≤ cap) (w : World) :
    (Instr.sliceAt t (.slice ao len cap) none (some (.int k1 (i : Int))) none).run P w = .ok (.slice ao i cap) w := by
  obtain ⟨ti, hi, hz, hsz, hby⟩ := info_parts T.info
  have h1' : (i : Int) ≤ cap := by omega
  cases ao <;> simp [Instr.sliceAt, Instr.slice, run_underlying T.und, Instr.sliceBounds, run_sliceBound, h1', sizeOf, typeInfo, hi, hsz, Addr.add_zero']
end Go.Rep
namespace Go.Proofs.Ytjbhcniiioepgaa
open Go.RowKit Go.Rep Go.Lim Go.Lin

/-- What reduce leaves: the pivots, and the rows turned. -/
def RdOut (X : Nat → Bool) (base : Nat) (w : World) (ao : Option Addr) (cap : Nat) (hs : List Hdr) (s : Mat × List Nat) (e : Ending) (w' : World) : Prop :=
  ExtX (mb ao hs) w w' ∧ ∃ po pc hs', e = .returned (.slice po s.2.length pc) ∧ mb ao hs' = mb ao hs ∧ MO (un X po) base 30 40 w' ao cap hs' s.1 ∧ OL (NatIn .i64) 1 (mz X ao hs) w.heap.size 3 w' po pc s.2

set_option maxRecDepth 100000 in
set_option maxHeartbeats 1600000 in
theorem mreduce_any (X : Nat → Bool) (base : Nat) (w : World) (ao : Option Addr) (cap n c : Nat) (hs : List Hdr) (m : List (List Rat)) (hX : HX X w) (hM : MO X base 30 40 w ao cap hs m) (hsh : Shp n c m) (hc : colsL m = c) (hn : n ≤ 900) (hcc : c ≤ 900) (hT : Tame m c) :
    Calls Try.prog 27 #[.slice ao n cap] w (RdOut X base w ao cap hs (redP m c)) := by
  have hech := echelon_any X base w ao cap n c hs m hX hM hsh hc hn hcc hT.e
  obtain ⟨B, hB7, _, hBt⟩ := hT
  have hok := eN_ok hsh c
  have hcap : n ≤ cap := by have := hM.capLen; rw [hsh.1] at this; exact this
  have hhO : Hd ao n := by have := hM.outer.hd; rw [hM.len, hsh.1] at this; exact this
  have hred : redP m c = (dN (eN m c).1 (eN m c).2.1 (eN m c).2.1.length, (eN m c).2.1) := rfl
  obtain ⟨⟨E, p, od⟩, hS⟩ : ∃ S, eN m c = S := ⟨_, rfl⟩
  rw [hS] at hech hok hBt hred
  rw [hred]
  dsimp only at hBt ⊢
  obtain ⟨pl, hpl⟩ : ∃ pl, p.length = pl := ⟨_, rfl⟩
  have hEs : Shp n c E := hok.shp
  have hEe : Ech n c (ent E) p := hok.ech
  have hpn : pl ≤ n := by have := hEe.le; omega
  have hDok := hid (dN_ok hEs hEe)
  have hDB : Hid (∀ t, t ≤ p.length → HB B (dN E p t)) := hid hBt
  have hDb := hid hB7
  have hplt : Hid (∀ i (hi : i < p.length), p[i] < c) := hid hEe.lt
  have hpl' := hid hpl
  have hn0 : Hid (HX X w) := hid hX
  clear hsh hBt hB7 hred hS hok hEe hc
  go_enter Try.func27, Try.ntmps27
  go_wp2_with fail
  refine hech.mono ?_
  rintro e w1 ⟨hE1, po, pc, hs', rfl, hmb, hM1, hP1⟩
  dsimp only at hM1 hP1 ⊢
  rw [hpl]
  have hmb' := hid hmb
  have hlen := hid (hM1.len.trans hEs.1)
  have hdP : Hd po pl := by have := hP1.hd; rw [hpl] at this; exact this
  clear hech hmb hpl hM
  go_wp2_with fail
  go_loopw [19] (fun k wr => ∃ (i : Nat), k = .int .i64 i ∧ i ≤ pl ∧ MO (un X po) base 30 40 wr ao cap hs' (dN E p i) ∧ OL (NatIn .i64) 1 (mz X ao hs) w.heap.size 3 wr po pc p ∧ ExtX (mb ao hs) w wr) (fun k _ => pl - (intOf k).toNat)
  case atStart => exact ⟨0, rfl, Nat.zero_le _, hM1, hP1, hE1⟩
  case round =>
    obtain ⟨i, rfl, hi, hM, hP, hE⟩ := hrel
    by_cases hlt : i < pl
    · have hip : i < p.length := by rw [hpl'.out]; exact hlt
      have hin : i < n := by omega
      have hcl := hplt.out i hip
      have hPs := (hP.sl (NatIn.elem _)).nat i hip
      have hD := hDok.out i (by rw [hpl'.out]; omega)
      have hDBi := hDB.out i (by rw [hpl'.out]; omega)
      have hDbi := hDb.out
      have hgd : Hid (p.getD i 0 = p[i]) := hid (by simp [List.getD_eq_getElem?_getD, hip])
      have hdn : Hid (dN E p (i + 1) = dStep (dN E p i) i p[i]) := hid (by rw [← hgd.out]; rfl)
      obtain ⟨D, hDe⟩ : ∃ D, dN E p i = D := ⟨_, rfl⟩
      obtain ⟨col, hcole⟩ : ∃ col, p[i] = col := ⟨_, rfl⟩
      rw [hDe] at hM hD hDBi hdn
      rw [hcole] at hPs hcl hdn
      have hDs : Shp n c D := hD.shp
      have hDl := hid hDs.1
      have hih : i < hs'.length := by rw [hlen.out]; exact hin
      have hiD : i < D.length := by rw [hDl.out]; exact hin
      obtain ⟨a, na, cr, hhd⟩ : ∃ a na cr, hs'[i] = (a, na, cr) := ⟨_, _, _, rfl⟩
      obtain ⟨row, hrow⟩ : ∃ row, D[i] = row := ⟨_, rfl⟩
      have hrl : Hid (row.length = c) := hid (by rw [← hrow]; exact hDs.2 _ (List.getElem_mem _))
      have hna : na = c := by
        have := hM.rlen i hih hiD
        rw [hhd, hrow, hrl.out] at this; exact this
      subst hna
      have hR := hM.row i hih hiD
      rw [hrow] at hR
      simp only [hhd] at hR
      have hz1 := fun k (hk : ob a k = true) => hM.mz_sub hih k (by rw [hhd]; exact hk)
      have hsp := fun k (hk : ob a k = true) => hM.sep i hih k (by rw [hhd]; exact hk)
      have hda : Hd a na := by have := hR.hd; rw [hrl.out] at this; exact this
      have hun : Hid (un (cut (mz (un X po) ao hs') a) a = mz (un X po) ao hs') := hid (un_cut hz1)
      have haob : Hid (ob a (adr ao i).block = false) := hid (by
        cases hb : ob a (adr ao i).block
        · rfl
        · have h1 := (hsp _ hb).2
          obtain ⟨b0, o0, rfl⟩ := hhO (by omega)
          simp [ob, adr] at h1)
      have y1 : wr.cell? (adr ao i) = some (.slice a na cr) := by
        have := (hM.hdr i hih).1
        rw [hhd] at this; exact this
      have hcr : col < row.length := by rw [hrl.out]; exact hcl
      have hby : Hid (row[col] = ent D i col) := hid (by
        unfold ent; rw [getD_row hiD]; simp [hrow, List.getD_eq_getElem?_getD, hcr])
      obtain ⟨by_, hbye⟩ : ∃ b, ent D i col = b := ⟨_, rfl⟩
      have hbq : Hid (hq by_ ≤ 68719476736) := hid (by rw [← hbye]; exact Nat.le_trans (hDBi i col) (by omega))
      have hBrow : Hid (BR 68719476736 row) := hid fun q hq => by
        obtain ⟨x, hx, rfl⟩ := List.getElem_of_mem hq
        have := hDBi.bm D[i] (List.getElem_mem _) row[x] (by rw [hrow]; exact List.getElem_mem _)
        omega
      have hdiv : Hid (D.set i (row.map (· / by_)) = divL D i col) := hid (by
        unfold divL; rw [getD_row hiD, hrow, hbye])
      rw [hbye] at hby
      have bx := Bx.new wr #[.bool false, .slice none 0 0, .slice none 0 0] 40
      have hhd' := hid hhd
      have hrow' := hid hrow
      clear hhd hrow hDe hcole hbye
      go_wp2_with (first | (with_reducible refine up_ix1 slInt (by omega) (by assumption) ?_) | (with_reducible refine up_ix1 slRats (by omega) (by assumption) ?_) | (with_reducible refine up_ixn slRat (by omega) (by assumption) ?_) | ((with_reducible show wpList _ _ _ (⟨_, .load 40 _, _, _, _, _⟩ :: _) _ _); refine st_loadOL stRat col hR hcr rfl (by simp) QC.agg ?_; intro u5 hu5; rw [hby.out, hun.out] at hu5; obtain ⟨s5, a5, n5, c5, d5, k5, e5, rfl⟩ := hu5.shape) | ((with_reducible show wpList _ _ _ (⟨_, .store _ _ _, _, _, _, _⟩ :: _) _ _); refine st_storeBox stRat rfl rfl bx rfl rfl (one3 _ _ _ _ _ _ _) ?_; intro w5 r1 r2; have y2 := (ExtX.box ((ExtX.refl wr).alloc _) r2 (Nat.le_refl _) : Ext wr w5).cell y1))
      have hE5 : Ext wr w5 := ExtX.box ((ExtX.refl wr).alloc _) r2 (Nat.le_refl _)
      have hM5 := hM.ext0 hE5
      have hP5 := hP.ext0 (NatIn.elem _) hE5
      have hq5 : QV (mk (mz (un X po) ao hs') w5) (.agg #[.bool s5, .slice a5 n5 c5, .slice d5 k5 e5]) by_ := (mkx QC.mono hu5 hE5).qv hbq.out
      have hE15 := hE.trans (ExtX.of (Y := mb ao hs) hE5)
      obtain ⟨bb, hbb⟩ : ∃ bb, wr.heap.size = bb := ⟨_, rfl⟩
      rw [hbb] at r1 ⊢
      have hmbb : Hid (mb ao hs bb = false) := hid (by
        rw [← hmb'.out]
        cases hb : mb ao hs' bb
        · rfl
        · have := (hM.mb_block hb).2; omega)
      obtain ⟨R, hRe⟩ : ∃ R, row.map (· / by_) = R := ⟨_, rfl⟩
      have hRl : Hid (R.length = na) := hid (by rw [← hRe, List.length_map]; exact hrl.out)
      have hRr : Hid (R.length = row.length) := hid (by rw [hRl.out, hrl.out])
      have hRj : Hid (∀ j (h1 : j < row.length) (h2 : j < R.length), R[j] = row[j] / by_) := hid fun j h1 h2 => by subst hRe; simp
      rw [hRe] at hdiv
      have hM5' : MO (un X po) base 30 40 w5 ao cap hs' (D.set i (mix R row 0)) := by
        rw [mix_zero, ← hrow'.out, List.set_getElem_self]; exact hM5
      clear hR hRe bx y1 y2 hM5 hu5 hM hP
      go_loopw [36] (fun k wx => ∃ (j : Nat), k = .int .i64 j ∧ j ≤ na ∧ MO (un X po) base 30 40 wx ao cap hs' (D.set i (mix R row j)) ∧ OL (NatIn .i64) 1 (mz X ao hs) w.heap.size 3 wx po pc p ∧ Bx wx bb #[.bool s5, .slice a5 n5 c5, .slice d5 k5 e5] 40 ∧ QV (mk (mz (un X po) ao hs') wx) (.agg #[.bool s5, .slice a5 n5 c5, .slice d5 k5 e5]) by_ ∧ ExtX (mb ao hs) w wx) (fun k _ => na - (intOf k).toNat)
      case atStart => exact ⟨0, rfl, Nat.zero_le _, hM5', hP5, r1, hq5, hE15⟩
      case round =>
        obtain ⟨j, rfl, hj, hM, hP, hB7, hq7, hE⟩ := hrel
        by_cases hlj : j < na
        · have hjr : j < row.length := by rw [hrl.out]; exact hlj
          have hjR : j < R.length := by rw [hRl.out]; exact hlj
          have hml : Hid ((mix R row j).length = na) := hid (by rw [mix_len hRr.out, hRl.out])
          have hjm : j < (mix R row j).length := by rw [hml.out]; exact hlj
          have hmg : Hid ((mix R row j)[j] = row[j]) := hid (by rw [mix_getElem hRr.out, if_neg (by omega)])
          have hjs : Hid ((mix R row j).set j R[j] = mix R row (j + 1)) := hid (mix_set hRr.out hjR)
          have hRjj := hid (hRj.out j hjr hjR)
          have hbr := hid (hBrow.out row[j] (List.getElem_mem _))
          have hset9 : Hid (i < (D.set i (mix R row j)).length) := hid (by rw [List.length_set]; exact hiD)
          have hR := hM.row i hih hset9.out
          rw [List.getElem_set_self] at hR
          simp only [hhd'.out] at hR
          obtain ⟨x, hx⟩ : ∃ x, row[j] = x := ⟨_, rfl⟩
          obtain ⟨v, hv⟩ : ∃ v, R[j] = v := ⟨_, rfl⟩
          rw [hx] at hmg hbr hRjj
          rw [hv] at hjs hRjj
          have hXr : HX X wr := hn0.out.ext hE
          have hXu : HX (un X po) wr := fun k hk => by
            by_cases hx : X k = true
            · exact hXr k hx
            · exact (hP.block (by simpa [un, hx] using hk)).2
          have hXz := hM.hz hXu
          obtain ⟨g, o, hg⟩ : ∃ g o, adr a (j * 3) = ⟨g, o, none⟩ := ⟨_, _, rfl⟩
          have i1 : ∀ W, (Instr.indexAt 23 (.slice ao n cap) (.int .i64 (i : Int))).run Try.prog W = .ok (.pointer (some (adr ao i))) W := run_ix1 slRats ao n cap .i64 i hhO (by omega) rfl
          have bx := Bx.new wr #[.bool false, .slice none 0 0, .slice none 0 0] 40
          have y1 : wr.cell? (adr ao i) = some (.slice a na cr) := by
            have := (hM.hdr i hih).1
            rw [hhd'.out] at this; exact this
          have hsp2 := hid hsp
          replace hg := hid hg
          clear hx hv hsp
          go_wp2_with (first | (with_reducible refine up_ixn slRat (by omega) (by assumption) ?_) | ((with_reducible show wpList _ _ _ (⟨_, .load 40 _, _, _, _, _⟩ :: _) _ _); refine st_loadOL stRat j hR hjm rfl (by simp) QC.agg ?_; intro u6 hu6; rw [hmg.out, hun.out] at hu6; obtain ⟨s6, a6, n6, c6, d6, k6, e6, rfl⟩ := hu6.shape) | ((with_reducible show wpList _ _ _ (⟨_, .store _ _ _, _, _, _, _⟩ :: _) _ _); refine st_storeBox stRat rfl rfl bx rfl rfl (one3 _ _ _ _ _ _ _) ?_; intro w6 r3 r4))
          have i2 : ∀ W, (Instr.indexAt 30 (.slice a na cr) (.int .i64 (j : Int))).run Try.prog W = .ok (.pointer (some ⟨g, o, none⟩)) W := by rw [← hg.out]; exact run_indexAt_adr slRat a na cr .i64 j hda (by omega)
          have hE6 : Ext wr w6 := ExtX.box ((ExtX.refl wr).alloc _) r4 (Nat.le_refl _)
          have hEd : Ext w6 w6.drew := (ExtX.refl w6).drew
          have hE6d := hE6.trans hEd
          have hM6 := hM.ext0 hE6d
          have hP6 := hP.ext0 (NatIn.elem _) hE6d
          have hR6 := hR.ext0 QC.elem hE6d
          have hB6 := hB7.ext0 hE6d
          have hx6 : QV (mk (mz (un X po) ao hs') w6.drew) (.agg #[.bool s6, .slice a6 n6 c6, .slice d6 k6 e6]) x := (mkx QC.mono hu6 hE6d).qv hbr.out
          have hb6 : QV (mk (mz (un X po) ao hs') w6.drew) (.agg #[.bool s5, .slice a5 n5 c5, .slice d5 k5 e5]) by_ := mkx QV.mono hq7 hE6d
          have hXd := hXz.ext hE6d
          have r3d := r3.ext0 hEd
          obtain ⟨bw, hbw⟩ : ∃ bw, wr.heap.size = bw := ⟨_, rfl⟩
          rw [hbw] at r3d
          have hab : Hid (ob a bw = false) := hid (by rw [← hbw]; exact hR.ob_ge (Nat.le_refl _))
          have habb : Hid (ob a bb = false) := hid (by
            cases hb : ob a bb
            · rfl
            · have h5 : mb ao hs' bb = true := mb_iff.2 (.inr (obs_get hih (show ob hs'[i].1 bb = true by rw [hhd'.out]; exact hb)))
              rw [hmb'.out, hmbb.out] at h5; simp at h5)
          have hS : Hid (∀ Y W', ExtX Y w6.drew W' → Y (adr ao i).block = false → Y bw = false → Y bb = false → W'.cell? (adr ao i) = some (.slice a na cr) ∧ W'.cell? ⟨bw, 0, none⟩ = some (.bool s6) ∧ W'.cell? ⟨bw, 1, none⟩ = some (.slice a6 n6 c6) ∧ W'.cell? ⟨bw, 2, none⟩ = some (.slice d6 k6 e6) ∧ W'.cell? ⟨bb, 0, none⟩ = some (.bool s5) ∧ W'.cell? ⟨bb, 1, none⟩ = some (.slice a5 n5 c5) ∧ W'.cell? ⟨bb, 2, none⟩ = some (.slice d5 k5 e5)) := hid fun Y W' h hy1 hy2 hy3 => by
            have z2 := r3d.ext h hy2
            have z3 := hB6.ext h hy3
            exact ⟨h.cellY (hE6d.cell y1) hy1, z2.cell 0 rfl, z2.cell 1 rfl, z2.cell 2 rfl, z3.cell 0 rfl, z3.cell 1 rfl, z3.cell 2 rfl⟩
          obtain ⟨k00, k10, k11, k12, k20, k21, k22⟩ := hS.out noY w6.drew (ExtX.refl _) rfl rfl rfl
          have qd := qdiv (mz (un X po) ao hs') w6.drew _ _ _ _ hXd hx6 hb6
          rw [← hRjj.out] at qd
          have qd2 : Calls Try.prog 44 #[.agg #[.bool s6, .slice a6 n6 c6, .slice d6 k6 e6], .agg #[.bool s5, .slice a5 n5 c5, .slice d5 k5 e5]] w6.drew (fun e w' => Ext w6.drew w' ∧ ∃ u ec, e = .returned (.tuple #[u, .int .i64 ec]) ∧ QC (mk (mz (un X po) ao hs') w') u v) := qd.mono fun e w' ⟨q1, u, q2, q3⟩ => ⟨q1, u, _, q2, q3⟩
          clear qd r3 bx y1
          rw [hbw]
          go_wp2_with fail
          go_region_held3 (fun w' => w'.cell? (adr ao i) = some (.slice a na cr) ∧ w'.cell? ⟨bw, 0, none⟩ = some (.bool s6) ∧ w'.cell? ⟨bw, 1, none⟩ = some (.slice a6 n6 c6) ∧ w'.cell? ⟨bw, 2, none⟩ = some (.slice d6 k6 e6) ∧ w'.cell? ⟨bb, 0, none⟩ = some (.bool s5) ∧ w'.cell? ⟨bb, 1, none⟩ = some (.slice a5 n5 c5) ∧ w'.cell? ⟨bb, 2, none⟩ = some (.slice d5 k5 e5))
            (first | exact hS.out noY _ t1 rfl rfl rfl | exact hS.out (ob a) _ ((ExtX.of t1).trans hset.2) haob.out hab.out habb.out | go_keep)
            ((go_at_call 44; (with_reducible refine qd2.mono ?_); rintro ee w7 ⟨t1, u7, ec7, rfl, hu7⟩; obtain ⟨s7, a7, n7, c7, d7, k7, e7, rfl⟩ := hu7.shape; have hO7 := hR6.ext0 QC.elem t1; obtain ⟨_, v0, v1, v2, _, ⟨g0, f0⟩, ⟨g1, f1⟩, ⟨g2, f2⟩, _⟩ := hO7.cell3 j hjm hg.out; have hset := hO7.set3 tyRat QC.elem j hjm hg.out (v0 := .bool s7) (v1 := .slice a7 n7 c7) (v2 := .slice d7 k7 e7) (x := v) (by rw [hun.out]; exact hu7)))
          obtain ⟨q1, q2⟩ := hset
          rw [hjs.out] at q1
          obtain ⟨w8, hw8⟩ : ∃ w8, ((w7.setCell ⟨g, o, none⟩ (.bool s7)).setCell ⟨g, o + 1, none⟩ (.slice a7 n7 c7)).setCell ⟨g, o + 2, none⟩ (.slice d7 k7 e7) = w8 := ⟨_, rfl⟩
          rw [hw8] at q1 q2 ⊢
          have q2' : ExtX (ob hs'[i].1) w7 w8 := by rw [hhd'.out]; exact q2
          have hM7 := (hM6.ext0 t1).upd hih (l := mix R row (j + 1)) q2' (fun hi' => by rw [List.getElem_set_self, mix_len hRr.out, mix_len hRr.out]) (by rw [hhd'.out]; exact q1)
          rw [List.set_set] at hM7
          have hP8 := (hP6.ext0 (NatIn.elem _) t1).frame (NatIn.pure _) q2 (fun k hk => by
            cases hb : ob a k
            · rfl
            · have := (hsp2.out k hb).1; rw [un_right hk] at this; simp at this) hP.1
          have hB8 := (hB6.ext0 t1).ext q2 habb.out
          have hq8 := QV.mono _ _ _ _ (mk_mono q2 hz1) (mkx QV.mono hb6 t1)
          have hE8 := (hE.trans (ExtX.of (hE6d.trans t1))).trans (show ExtX (mb ao hs) w7 w8 by rw [← hmb'.out]; exact ExtX.row hih q2')
          clear k00 k10 k11 k12 k20 k21 k22 g0 g1 g2 f0 f1 f2 i1 i2 hw8
          go_wp2_with fail
          go_roundw
          case rel => exact ⟨j + 1, by go_num, by omega, hM7, hP8, hB8, hq8, hE8⟩
          case measure => simp [intOf]; omega
        · have hjn : j = na := by omega
          subst hjn
          rw [mix_full (by rw [hRl.out]; exact Nat.le_refl _) (by rw [hrl.out]; exact Nat.le_refl _), hdiv.out] at hM
          obtain ⟨D2, hD2⟩ : ∃ D2, divL D i col = D2 := ⟨_, rfl⟩
          have hsh2 : Shp n j D2 := by rw [← hD2]; exact hDs.divL hin col
          have hbnd : Hid (∀ t, t < i → BR 68719476736 (D2.getD t []) ∧ BR 68719476736 (D2.getD i []) ∧ hq ((D2.getD t []).getD col 0 / (D2.getD i []).getD col 0) ≤ 68719476736 ∧ ∀ x ∈ D2.getD i [], hq ((D2.getD t []).getD col 0 / (D2.getD i []).getD col 0 * x) ≤ 68719476736) := hid fun t ht => by
            rw [← hD2]; exact elim_bounds2 hDs hDBi hin (by omega) (by omega) hDbi
          have hdn2 : Hid (above D2 i col i = dN E p (i + 1)) := hid (by rw [hdn.out]; unfold dStep; rw [hD2])
          rw [hD2] at hM
          have hD2l := hid hsh2.1
          have hM' : MO (un X po) base 30 40 wr ao cap hs' (above D2 i col 0) := by rw [above_zero]; exact hM
          have hicap : i ≤ cap := by omega
          have f1 : ∀ W, (Instr.sliceAt 23 (.slice ao n cap) none (some (.int .i64 (i : Int))) none).run Try.prog W = .ok (.slice ao i cap) W := run_slice_to slRats n cap .i64 i hicap
          have hhOi : Hd ao i := fun h0 => hhO (by omega)
          clear hM hD2 hB7 hq7
          go_wp2_with fail
          go_loopw [58] (fun k wx => ∃ (s : Nat), k = .int .i64 s ∧ s ≤ i ∧ MO (un X po) base 30 40 wx ao cap hs' (above D2 i col s) ∧ OL (NatIn .i64) 1 (mz X ao hs) w.heap.size 3 wx po pc p ∧ ExtX (mb ao hs) w wx) (fun k _ => i - (intOf k).toNat)
          case atStart => exact ⟨0, rfl, Nat.zero_le _, hM', hP, hE⟩
          case round =>
            obtain ⟨s, rfl, hs9, hM8, hP8, hE8⟩ := hrel
            by_cases hls : s < i
            · have htn : s < n := by omega
              have hth : s < hs'.length := by rw [hlen.out]; exact htn
              have htm : s < D2.length := by rw [hD2l.out]; exact htn
              have hpm : i < D2.length := by rw [hD2l.out]; exact hin
              have htc : s < (above D2 i col s).length := by rw [above_len]; exact htm
              have hpc : i < (above D2 i col s).length := by rw [above_len]; exact hpm
              obtain ⟨a1, n1, c1, hh1⟩ : ∃ a n c, hs'[s] = (a, n, c) := ⟨_, _, _, rfl⟩
              have hg1 : (above D2 i col s)[s] = D2[s] := by rw [above_get htc htm, if_neg (by omega)]
              have hg2 : (above D2 i col s)[i] = D2[i] := by rw [above_get hpc hpm, if_neg (by omega)]
              have hn1' : n1 = j := by
                have := hM8.rlen s hth htc
                rw [hh1, hg1, hsh2.2 _ (List.getElem_mem _)] at this; exact this
              subst hn1'
              have hR1 := hM8.row s hth htc
              have hR2 := hM8.row i hih hpc
              rw [hg1] at hR1
              rw [hg2] at hR2
              simp only [hh1] at hR1
              simp only [hhd'.out] at hR2
              have hzz1 := fun k (hk : ob a1 k = true) => hM8.mz_sub hth k (by rw [hh1]; exact hk)
              have hzz2 := fun k (hk : ob a k = true) => hM8.mz_sub hih k (by rw [hhd'.out]; exact hk)
              have hds : ∀ k, ob a1 k = true → ob a k = false := fun k hk => by
                have := hM8.dis s i hth hih (by omega) k (by rw [hh1]; exact hk)
                rw [hhd'.out] at this; exact this
              have hsp1 := fun k (hk : ob a1 k = true) => hM8.sep s hth k (by rw [hh1]; exact hk)
              have hBn := hbnd.out s hls
              rw [getD_row htm] at hBn
              have hcs : Hid ((above D2 i col s).set s (elimL D2[s] (D2.getD i []) col) = above D2 i col (s + 1)) := hid (above_set htm hls)
              have hpe : D2.getD i [] = D2[i] := getD_row hpm
              rw [← hpe] at hR2
              have hrl1 := hid (hsh2.2 D2[s] (List.getElem_mem _))
              have hrl2 := hid (show (D2.getD i []).length = n1 by rw [hpe]; exact hsh2.2 _ (List.getElem_mem _))
              obtain ⟨rw1, hrow1⟩ : ∃ rw1, D2[s] = rw1 := ⟨_, rfl⟩
              obtain ⟨piv, hpiv⟩ : ∃ piv, D2.getD i [] = piv := ⟨_, rfl⟩
              rw [hrow1, hpiv] at hcs
              rw [hrow1] at hR1 hrl1
              rw [hpiv] at hR2 hrl2
              rw [hrow1, hpiv] at hBn
              have hX8 : HX (un X po) wr := fun k hk => by
                by_cases hx : X k = true
                · exact hn0.out.ext hE8 k hx
                · exact (hP8.block (by simpa [un, hx] using hk)).2
              have hZ8 := hM8.hz hX8
              have hel := eliminate_any (mz (un X po) ao hs') base wr a1 a c1 cr n1 col rw1 piv hZ8 hR1 hR2 hzz1 hzz2 hds hrl1.out hrl2.out (by omega) hcl hBn.1 hBn.2.1 hBn.2.2.1 hBn.2.2.2
              have y1 : wr.cell? (adr ao s) = some (.slice a1 n1 c1) := by
                have := (hM8.hdr s hth).1
                rw [hh1] at this; exact this
              have y2 : wr.cell? (adr ao i) = some (.slice a n1 cr) := by
                have := (hM8.hdr i hih).1
                rw [hhd'.out] at this; exact this
              have hh1' := hid hh1
              clear hg1 hg2 hpe hrow1 hpiv hh1 hR1 hR2 hBn f1
              go_wp2_with (with_reducible refine up_ix1 slRats (by omega) (by assumption) ?_)
              refine hel.mono ?_
              rintro ee w7 ⟨rfl, t1, hO7⟩
              have hEr : ExtX (ob hs'[s].1) wr w7 := by rw [hh1'.out]; exact t1
              have hM9 := hM8.upd hth (l := elimL rw1 piv col) hEr (fun hi' => by
                rw [above_get htc htm, if_neg (by omega), elimL_len _ _ _ (by rw [hrl1.out, hrl2.out]), hrl2.out]
                exact (hsh2.2 _ (List.getElem_mem _)).symm) (by rw [hh1'.out]; exact hO7)
              rw [hcs.out] at hM9
              have hP9 := hP8.frame (NatIn.pure _) t1 (fun k hk => by
                cases hb : ob a1 k
                · rfl
                · have := (hsp1 k hb).1; rw [un_right hk] at this; simp at this) hP8.1
              have hE9 := hE8.trans (show ExtX (mb ao hs) wr w7 by rw [← hmb'.out]; exact ExtX.row hth hEr)
              clear y1 y2
              go_wp2_with fail
              go_roundw
              case rel => exact ⟨s + 1, by go_num, by omega, hM9, hP9, hE9⟩
              case measure => simp [intOf]; omega
            · have hsi : s = i := by omega
              subst hsi
              rw [hdn2.out] at hM8
              go_wp2_with fail
              go_roundw
              case rel => exact ⟨s + 1, by go_num, by omega, hM8, hP8, hE8⟩
              case measure => simp [intOf]; omega
    · have hil : i = pl := by omega
      subst hil
      rw [← hpl'.out] at hM
      go_wp2_with fail
      go_ret
      exact ⟨hE, po, pc, hs', by rw [hpl'.out]; rfl, hmb'.out, hM, hP⟩
end Go.Proofs.Ytjbhcniiioepgaa

namespace Go.Proofs.Ytjbhcniiioepgaa
open Go.RowKit Go.Rep Go.Lim Go.Lin

/-- A matrix, some column numbers, and no error. -/
def M3Out (X : Nat → Bool) (w : World) (m : List (List Rat)) (p : List Nat) (e : Ending) (w' : World) : Prop := Ext w w' ∧ ∃ u v, e = .returned (.tuple #[u, v, .int .i64 0]) ∧ MC (mk X w') u m ∧ SlV (NatIn .i64) 1 (mk X w') v p

theorem preduce_no (X : Nat → Bool) (w : World) (u : Value) (m : List (List Rat)) (hu : MV (mk X w) u m) (hl : m.length ≤ 1099511627776) (hf : formedB m = false) : Calls Try.prog 12 #[u] w (fun e w' => w' = w ∧ e = .returned (.tuple #[.slice none 0 0, .slice none 0 0, .int .i64 6])) := by
  have hfo := formed_any X w u m hu hl
  rw [hf] at hfo
  clear hf
  go_enter Try.func12, Try.ntmps12
  go_wp2_with fail
  refine hfo.mono ?_
  rintro e w1 ⟨rfl, rfl⟩
  go_wp2_with fail
  go_ret3
  exact ⟨rfl, rfl⟩

theorem preduce_ok (X : Nat → Bool) (w : World) (u : Value) (m : List (List Rat)) (hX : HX X w) (hu : MV (mk X w) u m) (hf : formedB m = true) (hT : Tame m (colsL m)) : Calls Try.prog 12 #[u] w (M3Out X w (redP m (colsL m)).1 (redP m (colsL m)).2) := by
  obtain ⟨hsh, h96, hc96, _, _⟩ := formedB_shp hf
  have hfo := formed_any X w u m hu (by omega)
  rw [hf] at hfo
  have hco := copied_any X w u m m.length (colsL m) hX hu hsh rfl (by omega) (by omega)
  have hrs := hid (redP_ok hsh).1
  clear hf
  go_enter Try.func12, Try.ntmps12
  go_wp2_with fail
  refine hfo.mono ?_
  rintro e w1 ⟨rfl, rfl⟩
  go_wp2_with fail
  refine hco.mono ?_
  rintro e w2 ⟨hE2, ao, cap, hs, rfl, hM2⟩
  go_wp2_with fail
  refine (mreduce_any X _ w2 ao cap m.length (colsL m) hs m (hX.ext hE2) hM2 hsh rfl (by omega) (by omega) hT).mono ?_
  rintro e w3 ⟨hE3, po, pc, hs', rfl, hmb, hM3, hP3⟩
  have hEf := hM2.ext_from hE2 (Nat.le_refl _) hE3
  have hmc := MC.mono _ _ _ _ (mk_sub (X := X) fun k _ hk => un_left hk) hM3.mc
  have hps : SlV (NatIn .i64) 1 (mk X w3) (.slice po (redP m (colsL m)).2.length pc) (redP m (colsL m)).2 := ⟨po, pc, rfl, hP3.lenCap, (hP3.sl (NatIn.elem _)).mono (NatIn.mono _) (mk_sub fun k _ hk => mz_iff.2 (.inl hk))⟩
  rw [hrs.out.1] at hmc
  go_wp2_with fail
  go_ret3
  exact ⟨hEf, _, _, rfl, hmc, hps⟩
end Go.Proofs.Ytjbhcniiioepgaa

namespace Go.Lin
open Go.Lim
/-- The matrix with a column at its right side. -/
def wideB (m : Mat) (b : List Rat) (n : Nat) : Mat := (List.range n).map fun i => m.getD i [] ++ [b.getD i 0]
theorem wideB_shp {m : Mat} {b : List Rat} {n c : Nat} (hs : Shp n c m) : Shp n (c + 1) (wideB m b n) := ⟨by simp [wideB], fun r hr => by
  obtain ⟨i, hi, rfl⟩ := List.mem_map.1 hr
  rw [List.length_append, hs.row (List.mem_range.1 hi)]; rfl⟩
theorem wideB_get {m : Mat} {b : List Rat} {n i : Nat} (h : i < (wideB m b n).length) (hi : i < m.length) (hb : i < b.length) : (wideB m b n)[i] = m[i] ++ [b[i]] := by
  simp [wideB, hi, hb, List.getD_eq_getElem?_getD]
theorem ent_wideB {m : Mat} {b : List Rat} {n c : Nat} (hs : Shp n c m) : Eqm n (c + 1) (ent (wideB m b n)) (wideF c (ent m) fun i => b.getD i 0) := fun i hi j hj => by
  have hr := hs.row hi
  have e : (wideB m b n).getD i [] = m.getD i [] ++ [b.getD i 0] := by simp [wideB, List.getD_eq_getElem?_getD, hi]
  show ((wideB m b n).getD i []).getD j 0 = _
  unfold wideF
  rw [e, List.getD_eq_getElem?_getD]
  by_cases h : j = c
  · rw [if_pos h, List.getElem?_append_right (by omega), hr]; subst h; simp
  · rw [if_neg h, List.getElem?_append_left (by omega), ← List.getD_eq_getElem?_getD]; rfl
theorem eN_nil (k : Nat) : eN [] k = ([], [], false) := by
  induction k with
  | zero => rfl
  | succ k ih => unfold eN; rw [ih]; rfl
theorem redP_nil (k : Nat) : redP [] k = ([], []) := by unfold redP; rw [eN_nil]; rfl
/-- The program's number of columns of a matrix without rows is 0. -/
theorem redP_cols {n c : Nat} {m : Mat} (hs : Shp n c m) (c' : Nat) (h : 0 < n → c' = c) : redP m c' = redP m c := by
  by_cases h0 : n = 0
  · have : m = [] := List.eq_nil_of_length_eq_zero (by rw [hs.1]; exact h0)
    subst this; rw [redP_nil, redP_nil]
  · rw [h (by omega)]
theorem tame_cols {n c : Nat} {m : Mat} (hs : Shp n c m) (c' : Nat) (h : 0 < n → c' = c) (hT : Tame m c) : Tame m c' := by
  by_cases h0 : n = 0
  · have : m = [] := List.eq_nil_of_length_eq_zero (by rw [hs.1]; exact h0)
    subst this
    obtain ⟨B, h1, h2, _⟩ := hT
    have h3 := h2 0 (Nat.zero_le _)
    rw [eN_nil] at h3
    refine ⟨B, h1, fun j _ => by rw [eN_nil]; exact h3, fun t ht => ?_⟩
    rw [eN_nil] at ht ⊢
    have : t = 0 := by simpa using ht
    subst this; exact h3
  · rw [h (by omega)]; exact hT
/-- The first i pivots' unknowns are written. -/
def sN (R : Mat) (p : List Nat) (c : Nat) : Nat → List Rat
  | 0 => List.replicate c 0
  | i + 1 => (sN R p c i).set (p.getD i 0) (ent R i c)
theorem sN_len (R : Mat) (p : List Nat) (c i : Nat) : (sN R p c i).length = c := by
  induction i with
  | zero => exact List.length_replicate
  | succ i ih => show ((sN R p c i).set _ _).length = c; rw [List.length_set, ih]
theorem sN_get {n c : Nat} {R : Mat} {p : List Nat} (hr : Rref n (c + 1) (ent R) p) (i : Nat) (hi : i ≤ p.length) (x : Nat) (hx : x < c) : (sN R p c i).getD x 0 = match p.findIdx? (· == x) with | some k => if k < i then ent R k c else 0 | none => 0 := by
  induction i with
  | zero =>
    show (List.replicate c (0 : Rat)).getD x 0 = _
    have : (List.replicate c (0 : Rat)).getD x 0 = 0 := by simp [List.getD_eq_getElem?_getD, hx]
    rw [this]; cases p.findIdx? (· == x) <;> simp
  | succ i ih =>
    have hip : i < p.length := by omega
    have hpi : p.getD i 0 = p[i] := by simp [List.getD_eq_getElem?_getD, hip]
    show ((sN R p c i).set (p.getD i 0) (ent R i c)).getD x 0 = _
    rw [hpi, List.getD_eq_getElem?_getD, List.getElem?_set, sN_len]
    by_cases h : p[i] = x
    · rw [if_pos h, if_pos (by omega), ← h, hr.idx i hip]; simp
    · rw [if_neg h, ← List.getD_eq_getElem?_getD, ih (by omega)]
      cases hf : p.findIdx? (· == x) with
      | none => rfl
      | some k =>
        have hk := List.findIdx?_eq_some_iff_getElem.1 hf
        obtain ⟨hk1, hk2, _⟩ := hk
        have hki : k ≠ i := by rintro rfl; exact h (by simpa using hk2)
        dsimp only
        by_cases h2 : k < i
        · rw [if_pos h2, if_pos (by omega)]
        · rw [if_neg h2, if_neg (by omega)]
/-- What Solve returns. -/
def solL (R : Mat) (p : List Nat) (c : Nat) : List Rat := sN R p c p.length
theorem solL_get {n c : Nat} {R : Mat} {p : List Nat} (hr : Rref n (c + 1) (ent R) p) (x : Nat) (hx : x < c) : (solL R p c).getD x 0 = solX (ent R) p c x := by
  unfold solL solX
  rw [sN_get hr _ (Nat.le_refl _) x hx]
  cases hf : p.findIdx? (· == x) with
  | none => rfl
  | some k =>
    obtain ⟨hk1, _⟩ := List.findIdx?_eq_some_iff_getElem.1 hf
    dsimp only
    rw [if_pos hk1]
end Go.Lin

namespace Go.Lin
open Go.Lim
/-- The first i pivots' unknowns of a null vector are written. -/
def xN (R : Mat) (p : List Nat) (c col : Nat) : Nat → List Rat
  | 0 => (List.replicate c 0).set col 1
  | i + 1 => (xN R p c col i).set (p.getD i 0) (- ent R i col)
theorem xN_len (R : Mat) (p : List Nat) (c col i : Nat) : (xN R p c col i).length = c := by
  induction i with
  | zero => show ((List.replicate c (0 : Rat)).set col 1).length = c; rw [List.length_set, List.length_replicate]
  | succ i ih => show ((xN R p c col i).set _ _).length = c; rw [List.length_set, ih]
theorem xN_get {n c col : Nat} {R : Mat} {p : List Nat} (hr : Rref n c (ent R) p) (hcp : col ∉ p) (i : Nat) (hi : i ≤ p.length) (x : Nat) (hx : x < c) : (xN R p c col i).getD x 0 = if x = col then 1 else match p.findIdx? (· == x) with | some k => if k < i then - ent R k col else 0 | none => 0 := by
  induction i with
  | zero =>
    show ((List.replicate c (0 : Rat)).set col 1).getD x 0 = _
    rw [List.getD_eq_getElem?_getD, List.getElem?_set, List.length_replicate]
    by_cases h : col = x
    · subst h; rw [if_pos rfl, if_pos hx, if_pos rfl]; rfl
    · rw [if_neg h, if_neg (Ne.symm h)]
      have : ((List.replicate c (0 : Rat))[x]?).getD 0 = 0 := by simp [hx]
      rw [this]; cases p.findIdx? (· == x) <;> simp
  | succ i ih =>
    have hip : i < p.length := by omega
    have hpi : p.getD i 0 = p[i] := by simp [List.getD_eq_getElem?_getD, hip]
    show ((xN R p c col i).set (p.getD i 0) (- ent R i col)).getD x 0 = _
    rw [hpi, List.getD_eq_getElem?_getD, List.getElem?_set, xN_len]
    by_cases h : p[i] = x
    · have hxc : x ≠ col := by rintro rfl; exact hcp (h ▸ List.getElem_mem _)
      rw [if_pos h, if_pos (by omega), if_neg hxc, ← h, hr.idx i hip]; simp
    · rw [if_neg h, ← List.getD_eq_getElem?_getD, ih (by omega)]
      cases hf : p.findIdx? (· == x) with
      | none => rfl
      | some k =>
        obtain ⟨hk1, hk2, _⟩ := List.findIdx?_eq_some_iff_getElem.1 hf
        have hki : k ≠ i := by rintro rfl; exact h (by simpa using hk2)
        dsimp only
        by_cases h2 : k < i
        · rw [if_pos h2, if_pos (show k < i + 1 by omega)]
        · rw [if_neg h2, if_neg (show ¬ k < i + 1 by omega)]
theorem xN_full {n c col : Nat} {R : Mat} {p : List Nat} (hr : Rref n c (ent R) p) (hcp : col ∉ p) : xN R p c col p.length = (List.range c).map (nv (ent R) p col) := by
  refine List.ext_getElem (by rw [xN_len]; simp) fun x h1 h2 => ?_
  have hx : x < c := by rw [xN_len] at h1; exact h1
  have := xN_get hr hcp _ (Nat.le_refl _) x hx
  rw [List.getD_eq_getElem?_getD, List.getElem?_eq_getElem h1] at this
  rw [show (xN R p c col p.length)[x] = _ from this]
  simp only [List.getElem_map, List.getElem_range]
  unfold nv
  by_cases h : x = col
  · rw [if_pos h, if_pos h]
  · rw [if_neg h, if_neg h]
    cases hf : p.findIdx? (· == x) with
    | none => rfl
    | some k =>
      obtain ⟨hk1, _⟩ := List.findIdx?_eq_some_iff_getElem.1 hf
      dsimp only
      rw [if_pos hk1]
/-- The null vectors of the first k columns. -/
def nullK (r : F2) (p : List Nat) (c k : Nat) : Mat := ((List.range k).filter (· ∉ p)).map fun j => (List.range c).map (nv r p j)
theorem nullK_skip (r : F2) {p : List Nat} (c : Nat) {k : Nat} (h : k ∈ p) : nullK r p c (k + 1) = nullK r p c k := by
  unfold nullK; rw [List.range_succ, List.filter_append]; simp [h]
theorem nullK_push (r : F2) {p : List Nat} (c : Nat) {k : Nat} (h : k ∉ p) : nullK r p c (k + 1) = nullK r p c k ++ [(List.range c).map (nv r p k)] := by
  unfold nullK; rw [List.range_succ, List.filter_append, List.map_append]; simp [h]
theorem nullK_le (r : F2) (p : List Nat) (c k : Nat) : (nullK r p c k).length ≤ k := by
  unfold nullK
  rw [List.length_map]
  exact Nat.le_trans (List.length_filter_le _ _) (by simp)
theorem tame_bm {m : Mat} {c : Nat} (h : Tame m c) : Go.Rep.BM 9817068105 (redP m c).1 := by
  obtain ⟨B, h1, _, h3⟩ := h
  have := (h3 _ (Nat.le_refl _)).bm
  exact fun r hr q hq => Nat.le_trans (this r hr q hq) (by omega)
end Go.Lin
namespace Go.Proofs.Ytjbhcniiioepgaa
open Go.RowKit Go.Rep Go.Lim Go.Lin

theorem indexint_any (X : Nat → Bool) (w : World) (ao : Option Addr) (l : List Nat) (n c x : Nat) (hs : Sl (NatIn .i64) 1 (mk X w) ao l) (hl : l.length = n) (hn : n ≤ 1000000) : Calls Try.prog 28 #[.slice ao n c, .int .i64 (x : Int)] w (fun e w' => w' = w ∧ ∃ k : Int, e = .returned (.int .i64 k) ∧ (0 ≤ k ↔ x ∈ l)) := by
  have hh : Hd ao n := by have := hs.hd; rw [hl] at this; exact this
  have hl' := hid hl
  clear hl
  go_enter Try.func28, Try.ntmps28
  go_wp2_with fail
  go_loopw [8] (fun k wr => ∃ (i : Nat), k = .int .i64 i ∧ i ≤ n ∧ Hid (∀ q (hq : q < l.length), q < i → l[q] ≠ x) ∧ wr = w) (fun k _ => n - (intOf k).toNat)
  case atStart => exact ⟨0, rfl, Nat.zero_le _, hid (fun q hq h => by omega), rfl⟩
  case round =>
    obtain ⟨i, rfl, hi, hok, rfl⟩ := hrel
    by_cases hlt : i < n
    · have hil : i < l.length := by rw [hl'.out]; exact hlt
      have hc := hs.nat i hil
      by_cases hx : l[i] = x
      · have hb : ((x : Int) == (l[i] : Int)) = true := beqT (by omega)
        have hm : Hid (x ∈ l) := hid (hx ▸ List.getElem_mem _)
        obtain ⟨y, hy⟩ : ∃ y, (l[i] : Int) = y := ⟨_, rfl⟩
        rw [hy] at hc hb
        clear hx hy
        go_wp2_with (with_reducible refine up_ix1 slInt (by omega) (by assumption) ?_)
        go_ret
        exact ⟨rfl, _, rfl, ⟨fun _ => hm.out, fun _ => by omega⟩⟩
      · have hb : ((x : Int) == (l[i] : Int)) = false := beqF (by omega)
        have hok2 : Hid (∀ q (hq : q < l.length), q < i + 1 → l[q] ≠ x) := hid fun q hq hqi => by
          by_cases h : q = i
          · subst h; exact hx
          · exact hok.out q hq (by omega)
        obtain ⟨y, hy⟩ : ∃ y, (l[i] : Int) = y := ⟨_, rfl⟩
        rw [hy] at hc hb
        clear hx hy
        go_wp2_with (with_reducible refine up_ix1 slInt (by omega) (by assumption) ?_)
        go_roundw
        case rel => exact ⟨i + 1, by go_num, by omega, hok2, trivial⟩
        case measure => simp [intOf]; omega
    · have hno : Hid (x ∉ l) := hid fun hm => by
        obtain ⟨q, hq, hqx⟩ := List.getElem_of_mem hm
        exact hok.out q hq (by rw [hl'.out] at hq; omega) hqx
      go_wp2_with fail
      go_ret
      exact ⟨rfl, _, rfl, ⟨fun h => by omega, fun h => absurd h hno.out⟩⟩

theorem contains_any (X : Nat → Bool) (w : World) (ao : Option Addr) (l : List Nat) (n c x : Nat) (hs : Sl (NatIn .i64) 1 (mk X w) ao l) (hl : l.length = n) (hn : n ≤ 1000000) : Calls Try.prog 14 #[.slice ao n c, .int .i64 (x : Int)] w (fun e w' => w' = w ∧ e = .returned (.bool (decide (x ∈ l)))) := by
  have h1 := indexint_any X w ao l n c x hs hl hn
  clear hs hl hn
  go_enter Try.func14, Try.ntmps14
  go_wp2_with fail
  refine h1.mono ?_
  rintro e w1 ⟨rfl, k, rfl, hk⟩
  have hd : Hid (decide (0 ≤ k) = decide (x ∈ l)) := hid (decide_eq_decide.2 hk)
  clear hk
  go_wp2_with fail
  go_ret
  exact ⟨rfl, ret_bool hd.out⟩

theorem null_no (X : Nat → Bool) (w : World) (u : Value) (m : List (List Rat)) (hu : MV (mk X w) u m) (hl : m.length ≤ 1099511627776) (hf : formedB m = false) : Calls Try.prog 5 #[u] w (fun e w' => w' = w ∧ e = .returned (.tuple #[.slice none 0 0, .int .i64 6])) := by
  have h1 := preduce_no X w u m hu hl hf
  clear hf
  go_enter Try.func5, Try.ntmps5
  go_wp2_with fail
  refine h1.mono ?_
  rintro e w1 ⟨rfl, rfl⟩
  go_wp2_with fail
  go_ret2
  exact ⟨rfl, rfl⟩

set_option maxRecDepth 100000 in
set_option maxHeartbeats 1600000 in
theorem null_ok (X : Nat → Bool) (w : World) (u : Value) (m : List (List Rat)) (n c : Nat) (hX : HX X w) (hu : MV (mk X w) u m) (hf : formedB m = true) (hnn : m.length = n) (hcc : colsL m = c) (hT : Tame m c) : Calls Try.prog 5 #[u] w (M2Out X w (nullL (ent (redP m c).1) (redP m c).2 c)) := by
  obtain ⟨hsh, h96, hc96, hpos, _⟩ := formedB_shp hf
  rw [hnn, hcc] at hsh
  rw [hnn] at h96
  rw [hcc] at hc96
  have hrd := preduce_ok X w u m hX hu hf (by rw [hcc]; exact hT)
  rw [hcc] at hrd
  have hcol := hid (fun w' (h : Ext w w') => columns_any X w' u m (mkx MV.mono hu h))
  rw [hcc] at hcol
  have hok := redP_ok hsh
  have hbm := hid (tame_bm hT)
  obtain ⟨⟨R, p⟩, hRp⟩ : ∃ S, redP m c = S := ⟨_, rfl⟩
  rw [hRp] at hrd hok hbm ⊢
  dsimp only at hrd hok hbm ⊢
  have hRs := hid hok.1
  have hRr := hid hok.2.1
  obtain ⟨pl, hpl⟩ : ∃ pl, p.length = pl := ⟨_, rfl⟩
  have hpl' := hid hpl
  have hpn : pl ≤ n := by have := hok.2.1.le; omega
  have hfull : Hid (nullK (ent R) p c c = nullL (ent R) p c) := hid rfl
  obtain ⟨ua, uca, rfl, huca, hua⟩ := hu
  clear hok hT hsh hf hnn hcc hRp huca hua hpos hpl
  go_enter Try.func5, Try.ntmps5
  go_wp2_with fail
  refine hrd.mono ?_
  rintro e w1 ⟨hE1, ur, uv, rfl, hur, huv⟩
  obtain ⟨ra, rca, rfl, hrca, hra⟩ := hur
  obtain ⟨pa, pca, rfl, hpca, hpa⟩ := huv
  have hhr : Hd ra n := by have := hra.hd; rw [hRs.out.1] at this; exact this
  have hhp : Hd pa pl := by have := hpa.hd; rw [hpl'.out] at this; exact this
  have hX1 := hX.ext hE1
  rw [hRs.out.1, hpl'.out]
  clear hrd
  go_wp2_with fail
  refine (hcol.out w1 hE1).mono ?_
  rintro e w2 ⟨rfl, rfl⟩
  go_wp2_with fail
  go_loopw [7, 23] (fun o kk wr => ∃ (k q : Nat) (oo : Option Addr) (co : Nat), kk = .int .i64 k ∧ o = .slice oo q co ∧ k ≤ c ∧ q ≤ k ∧ Hid ((nullK (ent R) p c k).length = q) ∧ OL RC 1 X w2.heap.size 30 wr oo co (nullK (ent R) p c k) ∧ Ext w2 wr) (fun _ kk _ => c - (intOf kk).toNat)
  case atStart => exact ⟨0, 0, none, 0, rfl, rfl, Nat.zero_le _, Nat.le_refl _, hid rfl, OL.nil _ _ _ _ _ _, ExtX.refl _⟩
  case round =>
    obtain ⟨k, q, oo, co, rfl, rfl, hk, hqk, hlq, hO, hE⟩ := hrel
    by_cases hlt : k < c
    · have hXr : HX X wr := hX1.ext hE
      have hXu : HX (un X oo) wr := hO.unX hXr
      have hcon := contains_any X wr pa p pl pca k (hpa.mono (NatIn.mono _) (mk_ext hE)) hpl'.out (by omega)
      have hw2r := hE.size
      by_cases hkp : k ∈ p
      · rw [decide_eq_true hkp] at hcon
        have hsk := hid (nullK_skip (ent R) c hkp)
        clear hkp
        go_wp2_with fail
        refine hcon.mono ?_
        rintro e w3 ⟨rfl, rfl⟩
        rw [← hsk.out] at hO hlq
        go_wp2_with fail
        go_roundw
        case rel => exact ⟨k + 1, q, oo, co, by go_num, rfl, by omega, by omega, hlq, hO, hE⟩
        case measure => simp [intOf]; omega
      · rw [decide_eq_false hkp] at hcon
        have hps := hid (nullK_push (ent R) c hkp)
        have hxf := hid (xN_full hRr.out hkp)
        rw [hpl'.out] at hxf
        have hcl := hcol.out wr (hE1.trans hE)
        clear hkp
        obtain ⟨wo, hwo⟩ : ∃ wo, wo = wr := ⟨_, rfl⟩
        subst hwo
        go_wp2_with fail
        refine hcon.mono ?_
        rintro e w3 ⟨rfl, rfl⟩
        go_wp2_with fail
        refine hcl.mono ?_
        rintro e w4 ⟨rfl, rfl⟩
        clear hcon hcl
        go_wp2_with ((with_reducible show wpList _ _ _ (⟨_, .makeSlice _ _ _, _, _, _, _⟩ :: _) _ _); refine st_make (R := QC) slRat QC.elem (0 : Rat) (fun _ => QC.zero _) (un X oo) hXu w4.heap.size (Nat.le_refl _) c rfl rfl rfl (by omega) (by omega) ?_; intro xo w5 hO5 hE5)
        have hob := hid (fun k (hk : ob xo k = true) => hO5.block hk)
        have hxd : Hd xo c := by have := hO5.hd; rw [List.length_replicate] at this; exact this
        obtain ⟨Z, hZe⟩ : ∃ Z, un (un X oo) xo = Z := ⟨_, rfl⟩
        have hZ' := hid hZe
        have hZ5 : HX Z w5 := by rw [← hZe]; exact hO5.unX (hXu.ext hE5)
        have hoob := hid (fun k (hk : ob oo k = true) => hO.block hk)
        have hXr' := hid hXr
        have hzold : Hid (∀ k, k < w2.heap.size → Z k = true → X k = true) := hid fun k hk hz => by
          rw [← hZ'.out] at hz
          by_cases h1 : X k = true
          · exact h1
          · by_cases h2 : ob oo k = true
            · have := (hoob.out k h2).1; omega
            · have h3 : ob xo k = true := by simpa [un, h1, h2] using hz
              have := (hob.out k h3).1; omega
        have h1r : ((1 : Int) : Rat) = 1 := by decide +kernel
        have hqf := qfrom Z w5 1 hZ5 (by omega) (by omega)
        rw [h1r] at hqf
        have hkr : k < (List.replicate c (0 : Rat)).length := by rw [List.length_replicate]; exact hlt
        clear h1r hZe
        go_wp2_with fail
        refine hqf.mono ?_
        rintro e w6 ⟨hE6, u6, rfl, hu6⟩
        have hO6 := hO5.ext0 QC.elem hE6
        go_wp2_with (first | (with_reducible refine up_ixn slRat (by omega) (by assumption) ?_) | ((with_reducible show wpList _ _ _ (⟨_, .store 40 _ _, _, _, _, _⟩ :: _) _ _); refine st_store tyRat QC.elem k rfl (by simp) hO6 hkr _ 1 rfl (by rw [hZ'.out]; exact hu6) ?_; intro w7 hO7 hE7))
        have hE47 : Ext w4 w7 := (hE5.trans hE6).own hO6 (Nat.le_refl _) hE7
        clear hqf hO5 hO6
        go_loopw [38] (fun kk wi => ∃ (j : Nat), kk = .int .i64 j ∧ j ≤ pl ∧ OL QC 3 (un X oo) w4.heap.size 40 wi xo c (xN R p c k j) ∧ Ext w4 wi) (fun kk _ => pl - (intOf kk).toNat)
        case atStart => exact ⟨0, rfl, Nat.zero_le _, hO7, hE47⟩
        case round =>
          obtain ⟨j, rfl, hj, hOx, hEx⟩ := hrel
          have hE2x := hE.trans hEx
          by_cases hlj : j < pl
          · have hjp : j < p.length := by rw [hpl'.out]; exact hlj
            have hpc := (hpa.mono (NatIn.mono _) (mk_ext hE2x)).nat j hjp
            have hpc1 : Hid (p[j] < c) := hid (hRr.out.lt j hjp)
            have hgd : Hid (p.getD j 0 = p[j]) := hid (by simp [List.getD_eq_getElem?_getD, hjp])
            obtain ⟨y, hy⟩ : ∃ y, p[j] = y := ⟨_, rfl⟩
            rw [hy] at hpc hpc1 hgd
            have hyc : y < c := hpc1.out
            have hjR : j < R.length := by rw [hRs.out.1]; omega
            have hrz : Sl RC 1 (mk Z wr) ra R := hra.mono RC.mono (mk_over hE2x (fun k _ hk => by simp [noY] at hk) hzold.out)
            obtain ⟨a1, c1, hX1', hc1, hcl1, hq1⟩ := hrz.row j hjR
            have k00 := hc1.out noY wr (ExtX.refl _) rfl
            have hxl : Hid (R[j].length = c) := hid (hRs.out.2 _ (List.getElem_mem _))
            have hxe : Hid (∀ h : k < R[j].length, R[j][k] = ent R j k) := hid fun h => by unfold ent; rw [show R.getD j [] = R[j] by simp [List.getD_eq_getElem?_getD, hjR]]; simp [List.getD_eq_getElem?_getD, h]
            have hbr := hid (hbm.out R[j] (List.getElem_mem _))
            obtain ⟨x, hx⟩ : ∃ x, R[j] = x := ⟨_, rfl⟩
            rw [hx] at k00 hcl1 hq1 hxl hxe hbr
            rw [hxl.out] at k00 hcl1
            have hh1 : Hd a1 c := by have := hq1.hd; rw [hxl.out] at this; exact this
            have hkx : k < x.length := by rw [hxl.out]; exact hlt
            have hxk := hid (hxe.out hkx)
            have hbk := hid (hbr.out x[k] (List.getElem_mem _))
            have hZr : HX Z wr := by
              rw [← hZ'.out]
              exact hOx.unX (hXu.ext hEx)
            have hyx : y < (xN R p c k j).length := by rw [xN_len]; exact hyc
            have hst : Hid ((xN R p c k j).set y (- ent R j k) = xN R p c k (j + 1)) := hid (by rw [← hgd.out]; rfl)
            obtain ⟨v, hv⟩ : ∃ v, x[k] = v := ⟨_, rfl⟩
            rw [hv] at hxk hbk
            have hv' := hid hv
            clear hx hc1 hy hv
            go_wp2_with (first | (with_reducible refine up_ix1 slInt (by omega) (by assumption) ?_) | (with_reducible refine up_ix1 slRats (by omega) (by assumption) ?_) | (with_reducible refine up_ixn slRat (by omega) (by assumption) ?_) | ((with_reducible show wpList _ _ _ (⟨_, .load 40 _, _, _, _, _⟩ :: _) _ _); refine st_loadElem stRat k hq1 hkx rfl (by simp) QC.agg ?_; intro u8 hu8; rw [hv'.out] at hu8; obtain ⟨s8, a8, n8, c8, d8, k8, e8, rfl⟩ := hu8.shape))
            refine (qneg Z wr _ v hZr (hu8.qv (by have := hbk.out; omega))).mono ?_
            rintro e w9 ⟨hE9, u9, rfl, hu9⟩
            have hO9 := hOx.ext0 QC.elem hE9
            rw [hxk.out] at hu9
            clear k00 hpc
            go_wp2_with (first | (with_reducible refine up_ixn slRat (by omega) (by assumption) ?_) | ((with_reducible show wpList _ _ _ (⟨_, .store 40 _ _, _, _, _, _⟩ :: _) _ _); refine st_store tyRat QC.elem y rfl (by simp) hO9 hyx _ (- ent R j k) rfl (by rw [hZ'.out]; exact hu9) ?_; intro w10 hO10 hE10))
            rw [hst.out] at hO10
            have hEx2 : Ext w4 w10 := (hEx.trans hE9).own hO9 (Nat.le_refl _) hE10
            go_roundw
            case rel => exact ⟨j + 1, by go_num, by omega, hO10, hEx2⟩
            case measure => simp [intOf]; omega
          · have hjl : j = pl := by omega
            subst hjl
            rw [hxf.out] at hOx
            obtain ⟨L, hL⟩ : ∃ L, (List.range c).map (nv (ent R) p k) = L := ⟨_, rfl⟩
            rw [hL] at hOx hps
            have hLl : L.length = c := by rw [← hL]; simp
            have hsx := hOx.sl QC.elem
            have hlc := hOx.lenCap
            have hOw := hO.ext0 RC.elem hEx
            have hszx := hEx.size
            clear hL
            go_wp2_with (at_builtin; refine st_append1n (l := nullK (ent R) p c k) slRats rfl RC.elem (by omega) (hXr'.out.ext hEx) q hlq.out rfl rfl hOw (.slice xo c c) L rfl ⟨xo, c, by rw [hLl], hlc, hsx⟩ (by omega) (by omega) ?_; intro oo2 co2 w11 hO11 hE11 hor)
            have hE12 := (hE.trans hEx).own hOw (Nat.le_refl _) hE11
            rw [← hps.out] at hO11
            have hlq2 : Hid ((nullK (ent R) p c (k + 1)).length = q + 1) := hid (by rw [hps.out, List.length_append, hlq.out]; rfl)
            go_roundw
            case rel => exact ⟨k + 1, q + 1, oo2, co2, by go_num, by go_num, by omega, by omega, hlq2, hO11, hE12⟩
            case measure => simp [intOf]; omega
    · have hkc : k = c := by omega
      subst hkc
      rw [hfull.out] at hO hlq
      have hc := hO.lenCap
      have hs := hO.sl RC.elem
      go_wp2_with fail
      go_ret2
      exact ⟨hE1.trans hE, .slice oo q co, rfl, oo, co, by rw [hlq.out], hc, hs⟩
end Go.Proofs.Ytjbhcniiioepgaa

namespace Go.Lin
open Go.Lim
theorem matL_shp (r c : Nat) (raw : List Int) : Shp r c (matL r c raw) := ⟨by simp [matL], fun x hx => by
  obtain ⟨i, _, rfl⟩ := List.mem_map.1 hx; simp⟩
theorem matL_bm (r c : Nat) (raw : List Int) : Go.Rep.BM 2 (matL r c raw) := fun x hx q hq => by
  obtain ⟨i, _, rfl⟩ := List.mem_map.1 hx
  obtain ⟨j, _, rfl⟩ := List.mem_map.1 hq
  exact numQ_hq _
/-- One row added to another, and both exchanged. -/
def addSwap (m : Mat) (i j : Nat) (f : Rat) : Mat := swapL (m.set i (List.zipWith (· + ·) (m.getD i []) ((m.getD j []).map (· * f)))) i j
theorem addSwap_ok {n c B : Nat} {m : Mat} {i j : Nat} {f : Rat} (hs : Shp n c m) (hi : i < n) (hj : j < n) (hij : i ≠ j) (hB : HB B m) (hf : hq f ≤ B) : Shp n c (addSwap m i j f) ∧ RE n c (ent m) (ent (addSwap m i j f)) (-1) ∧ HB (4 * B) (addSwap m i j f) := by
  have hri := hs.row hi
  have hrj := hs.row hj
  have hl : (List.zipWith (· + ·) (m.getD i []) ((m.getD j []).map (· * f))).length = c := by rw [List.length_zipWith, List.length_map, hri, hrj]; omega
  have hs1 := hs.set i hl
  have he : ∀ r q, ent (m.set i (List.zipWith (· + ·) (m.getD i []) ((m.getD j []).map (· * f)))) r q = if r = i then ent m i q + ent m j q * f else ent m r q := fun r q => by
    rw [ent_set (by rw [hs.1]; exact hi), zip_add _ _ (by rw [List.length_map, hri, hrj]), getD_map_mul]; rfl
  refine ⟨hs1.swap hi hj, ?_, ?_⟩
  · refine (RE.add (f := ent m) (g := ent (m.set i (List.zipWith (· + ·) (m.getD i []) ((m.getD j []).map (· * f))))) i j f hi hj hij (fun q _ => by rw [he]; simp; grind) (fun r _ hr q _ => by rw [he, if_neg hr])).then_ (re_swap hs1 hi hj hij) (by grind)
  · refine HB.swap (fun r q => ?_) hs1 hi hj
    rw [he]
    split
    · have h1 := hB i q; have h2 := hB j q; have h3 := hq_mul (ent m j q) f; have h4 := hq_add (ent m i q) (ent m j q * f); have := hB.pos; omega
    · have := hB r q; omega
/-- A row multiplied. -/
def mulRow (m : Mat) (i : Nat) (f : Rat) : Mat := m.set i ((m.getD i []).map (· * f))
theorem mulRow_ok {n c B : Nat} {m : Mat} {i : Nat} {f : Rat} (hs : Shp n c m) (hi : i < n) (hf0 : f ≠ 0) (hB : HB B m) (hf : hq f ≤ B) : Shp n c (mulRow m i f) ∧ RE n c (ent m) (ent (mulRow m i f)) f ∧ HB (4 * B) (mulRow m i f) := by
  have he : ∀ r q, ent (mulRow m i f) r q = if r = i then ent m i q * f else ent m r q := fun r q => by
    unfold mulRow; rw [ent_set (by rw [hs.1]; exact hi), getD_map_mul]; rfl
  refine ⟨hs.set i (by rw [List.length_map]; exact hs.row hi), .scale i f hi hf0 (fun q _ => by rw [he]; simp; grind) (fun r _ hr q _ => by rw [he, if_neg hr]), fun r q => ?_⟩
  rw [he]
  split
  · have h1 := hB i q; have h3 := hq_mul (ent m i q) f; have := hB.pos; omega
  · have := hB r q; omega
end Go.Lin

namespace Go.Lin
open Go.Lim
theorem sqf {k : Nat} {m : Mat} (h : Shp k k m) (hk : k ≤ 96) : formedB m = true ∧ colsL m = k := by
  by_cases h0 : k = 0
  · have : m = [] := List.eq_nil_of_length_eq_zero (by rw [h.1]; exact h0)
    subst this
    exact ⟨rfl, by rw [h0]; rfl⟩
  · exact ⟨shpf h hk (by omega) hk, shpc h (by omega)⟩
theorem detV_hq {m : Mat} {n : Nat} (hT : TameE m n) (hn : n ≤ 6) : hq (detV m n) ≤ 68719476736 := by
  obtain ⟨B, hB7, hBj⟩ := hT
  have hBn := hBj n (Nat.le_refl _)
  have h1 := pr_hq (f := fun i => ent (eN m n).1 i i) (fun i => hBn i i) n
  have h2 : n * B ≤ 6 * B := Nat.mul_le_mul_right _ hn
  unfold detV
  split
  · rw [hq_neg]; omega
  · omega
theorem mulL_bm {a b : Mat} {n c B : Nat} (ha : Go.Rep.BM B a) (hb : Go.Rep.BM B b) (hB : 1 ≤ B) : Go.Rep.BM (1 + n * (2 * B + 1)) (mulL a b n c) := fun r hr q hq => by
  obtain ⟨x, hx, rfl⟩ := List.mem_map.1 hr
  obtain ⟨y, hy, rfl⟩ := List.mem_map.1 hq
  have hyb := hb_bm (trL_hb (n := n) (c := c) (bm_hb hb hB)) y hy
  have := dotN_hq hyb (ha x hx) hB y.length
  rw [(trL_shp b n c).2 y hy] at this
  unfold dotL
  rw [(trL_shp b n c).2 y hy]
  exact this
theorem sq_tame {k B : Nat} {m : Mat} (h : Shp k k m) (hk : k ≤ 4) (hB : Go.Rep.BM B m) (hB1 : 1 ≤ B) (hBB : B ≤ 6000) : Tame m k := by
  refine tame_of h (bm_hb hB hB1) ?_
  have : 35 ^ k ≤ 1500625 := Nat.le_trans (Nat.pow_le_pow_right (by omega) hk) (by decide)
  have h2 : 35 ^ k * B ≤ 1500625 * 6000 := Nat.mul_le_mul this hBB
  omega
end Go.Lin
