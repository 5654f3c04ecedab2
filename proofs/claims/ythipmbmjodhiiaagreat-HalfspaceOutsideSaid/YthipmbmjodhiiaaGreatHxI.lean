/- Parts of a proof: each theorem states what it proves, and its conditions. -/
import Derived.Test.YthipmbmjodhiiaaGreatHxH
import Derived.BigRegion
import Derived.WalkMore
import Derived.ArgAppend
import Derived.WalkKit
import Derived.OrdersHeld
import Derived.StillTail
import Derived.Deep.RegionHeld
import Derived.Deep.RegionHeld3
import Derived.Deep.RegionLaw
import Derived.Deep.AppendLies
namespace Go.Lin
theorem elim_bounds2 {n c B t i col : Nat} {m : Mat} (hs : Shp n c m) (h : HB B m) (ht : t < n) (_hi : i < n) (hit : i ≠ t) (hB : 7 * B <= 68719476736) :
    Go.Rep.BR 68719476736 ((divL m t col).getD i []) /\ Go.Rep.BR 68719476736 ((divL m t col).getD t []) /\ Go.Lim.hq (((divL m t col).getD i []).getD col 0 / ((divL m t col).getD t []).getD col 0) <= 68719476736 /\ ∀ x ∈ (divL m t col).getD t [], Go.Lim.hq (((divL m t col).getD i []).getD col 0 / ((divL m t col).getD t []).getD col 0 * x) <= 68719476736 := by
  have h2 := h.divL hs ht col
  have hrow : ∀ k, Go.Rep.BR (2 * B) ((divL m t col).getD k []) := fun k q hq => by
    obtain ⟨j, hj, rfl⟩ := List.getElem_of_mem hq
    have e : ((divL m t col).getD k []).getD j 0 = ((divL m t col).getD k [])[j] := by rw [List.getD_eq_getElem?_getD, List.getElem?_eq_getElem hj]; rfl
    rw [<- e]; exact h2 k j
  have h1 : Go.Lim.hq (((divL m t col).getD i []).getD col 0) <= B := by
    have := ent_divL hs ht col i col
    rw [if_neg hit] at this
    unfold ent at this
    rw [this]; exact h i col
  have h3 : Go.Lim.hq (((divL m t col).getD t []).getD col 0) <= 2 * B := h2 t col
  have h4 := Go.Lim.hq_div (((divL m t col).getD i []).getD col 0) (((divL m t col).getD t []).getD col 0)
  refine ⟨fun q hq => Nat.le_trans (hrow i q hq) (by omega), fun q hq => Nat.le_trans (hrow t q hq) (by omega), by omega, fun x hx => ?_⟩
  have h5 := hrow t x hx
  have h6 := Go.Lim.hq_mul (((divL m t col).getD i []).getD col 0 / ((divL m t col).getD t []).getD col 0) x
  omega
end Go.Lin
namespace Go.Rep
theorem run_slice_to {P : Program} {t e sz by_ : Nat} {z : Value} {ao : Option Addr} (T : SliceT P t e sz by_ z) (len cap : Nat) (k1 : IntKind) (i : Nat) (h1 : i <= cap) (w : World) :
    (Instr.sliceAt t (.slice ao len cap) none (some (.int k1 (i : Int))) none).run P w = .ok (.slice ao i cap) w := by
  obtain ⟨ti, hi, hz, hsz, hby⟩ := info_parts T.info
  have h1' : (i : Int) <= cap := by omega
  cases ao <;> simp [Instr.sliceAt, Instr.slice, run_underlying T.und, Instr.sliceBounds, run_sliceBound, h1', sizeOf, typeInfo, hi, Addr.add_zero']
end Go.Rep
namespace Go.Proofs.YthipmbmjodhiiaaGreat
open Go.RowKit Go.Rep Go.Lim Go.Lin
def RdOut (X : Nat -> Bool) (base : Nat) (w : World) (ao : Option Addr) (cap : Nat) (hs : List Hdr) (s : Mat × List Nat) (e : Ending) (w' : World) : Prop :=
  ExtX (mb ao hs) w w' /\ ∃ po pc hs', e = .returned (.slice po s.2.length pc) /\ mb ao hs' = mb ao hs /\ MO (un X po) base 27 34 w' ao cap hs' s.1 /\ OL (NatIn .i64) 1 (mz X ao hs) w.heap.size 3 w' po pc s.2
set_option maxRecDepth 100000 in
set_option maxHeartbeats 1600000 in
theorem mreduce_any (X : Nat -> Bool) (base : Nat) (w : World) (ao : Option Addr) (cap n c : Nat) (hs : List Hdr) (m : List (List Rat)) (hX : HX X w) (hM : MO X base 27 34 w ao cap hs m) (hsh : Shp n c m) (hc : colsL m = c) (hn : n <= 900) (hcc : c <= 900) (hT : Tame m c) :
    Calls Tryz.prog 141 #[.slice ao n cap] w (RdOut X base w ao cap hs (redP m c)) := by
  have hech := echelon_any X base w ao cap n c hs m hX hM hsh hc hn hcc hT.e
  obtain ⟨B, hB7, _, hBt⟩ := hT
  have hok := eN_ok hsh c
  have hcap : n <= cap := by have := hM.capLen; rw [hsh.1] at this; exact this
  have hhO : Hd ao n := by have := hM.outer.hd; rw [hM.len, hsh.1] at this; exact this
  have hred : redP m c = (dN (eN m c).1 (eN m c).2.1 (eN m c).2.1.length, (eN m c).2.1) := rfl
  obtain ⟨⟨E, p, od⟩, hS⟩ : ∃ S, eN m c = S := ⟨_, rfl⟩
  rw [hS] at hech hok hBt hred
  rw [hred]
  dsimp only at hBt |-
  obtain ⟨pl, hpl⟩ : ∃ pl, p.length = pl := ⟨_, rfl⟩
  have hEs : Shp n c E := hok.shp
  have hEe : Ech n c (ent E) p := hok.ech
  have hpn : pl <= n := by have := hEe.le; omega
  have hDok := hid (dN_ok hEs hEe)
  have hDB : Hid (∀ t, t <= p.length -> HB B (dN E p t)) := hid hBt
  have hDb := hid hB7
  have hplt : Hid (∀ i (hi : i < p.length), p[i] < c) := hid hEe.lt
  have hpl' := hid hpl
  have hn0 : Hid (HX X w) := hid hX
  clear hsh hBt hB7 hred hS hok hEe hc
  go_enter Tryz.func141, Tryz.ntmps141
  go_wp2_with fail
  refine hech.mono ?_
  rintro e w1 ⟨hE1, po, pc, hs', rfl, hmb, hM1, hP1⟩
  dsimp only at hM1 hP1 |-
  rw [hpl]
  have hmb' := hid hmb
  have hlen := hid (hM1.len.trans hEs.1)
  have hdP : Hd po pl := by have := hP1.hd; rw [hpl] at this; exact this
  clear hech hmb hpl hM
  go_wp2_with fail
  go_loopw [19] (fun k wr => ∃ (i : Nat), k = .int .i64 i /\ i <= pl /\ MO (un X po) base 27 34 wr ao cap hs' (dN E p i) /\ OL (NatIn .i64) 1 (mz X ao hs) w.heap.size 3 wr po pc p /\ ExtX (mb ao hs) w wr) (fun k _ => pl - (intOf k).toNat)
  case atStart => exact ⟨0, rfl, Nat.zero_le _, hM1, hP1, hE1⟩
  case round =>
    obtain ⟨i, rfl, hi, hM, hP, hE⟩ := hrel
    by_cases hlt : i < pl
    · have hip : i < p.length := by rw [hpl'.out]; exact hlt
      have hin : i < n := by omega
      have hcl := hplt.out i hip
      have hPs := (hP.sl (NatIn.elem _)).nat i hip
      have hD := hDok.out i (by rw [hpl'.out]; omega)
      have hDBi := hDB.out i (by rw [hpl'.out]; omega)
      have hDbi := hDb.out
      have hgd : Hid (p.getD i 0 = p[i]) := hid (by simp [List.getD_eq_getElem?_getD, hip])
      have hdn : Hid (dN E p (i + 1) = dStep (dN E p i) i p[i]) := hid (by rw [<- hgd.out]; rfl)
      obtain ⟨D, hDe⟩ : ∃ D, dN E p i = D := ⟨_, rfl⟩
      obtain ⟨col, hcole⟩ : ∃ col, p[i] = col := ⟨_, rfl⟩
      rw [hDe] at hM hD hDBi hdn
      rw [hcole] at hPs hcl hdn
      have hDs : Shp n c D := hD.shp
      have hDl := hid hDs.1
      have hih : i < hs'.length := by rw [hlen.out]; exact hin
      have hiD : i < D.length := by rw [hDl.out]; exact hin
      obtain ⟨a, na, cr, hhd⟩ : ∃ a na cr, hs'[i] = (a, na, cr) := ⟨_, _, _, rfl⟩
      obtain ⟨row, hrow⟩ : ∃ row, D[i] = row := ⟨_, rfl⟩
      have hrl : Hid (row.length = c) := hid (by rw [<- hrow]; exact hDs.2 _ (List.getElem_mem _))
      have hna : na = c := by
        have := hM.rlen i hih hiD
        rw [hhd, hrow, hrl.out] at this; exact this
      subst hna
      have hR := hM.row i hih hiD
      rw [hrow] at hR
      simp only [hhd] at hR
      have hz1 := fun k (hk : ob a k = true) => hM.mz_sub hih k (by rw [hhd]; exact hk)
      have hsp := fun k (hk : ob a k = true) => hM.sep i hih k (by rw [hhd]; exact hk)
      have hda : Hd a na := by have := hR.hd; rw [hrl.out] at this; exact this
      have hun : Hid (un (cut (mz (un X po) ao hs') a) a = mz (un X po) ao hs') := hid (un_cut hz1)
      have haob : Hid (ob a (adr ao i).block = false) := hid (by
        cases hb : ob a (adr ao i).block
        · rfl
        · have h1 := (hsp _ hb).2
          obtain ⟨b0, o0, rfl⟩ := hhO (by omega)
          simp [ob, adr] at h1)
      have y1 : wr.cell? (adr ao i) = some (.slice a na cr) := by
        have := (hM.hdr i hih).1
        rw [hhd] at this; exact this
      have hcr : col < row.length := by rw [hrl.out]; exact hcl
      have hby : Hid (row[col] = ent D i col) := hid (by
        unfold ent; rw [getD_row hiD]; simp [hrow, List.getD_eq_getElem?_getD, hcr])
      obtain ⟨by_, hbye⟩ : ∃ b, ent D i col = b := ⟨_, rfl⟩
      have hbq : Hid (hq by_ <= 68719476736) := hid (by rw [<- hbye]; exact Nat.le_trans (hDBi i col) (by omega))
      have hBrow : Hid (BR 68719476736 row) := hid fun q hq => by
        obtain ⟨x, hx, rfl⟩ := List.getElem_of_mem hq
        have := hDBi.bm D[i] (List.getElem_mem _) row[x] (by rw [hrow]; exact List.getElem_mem _)
        omega
      have hdiv : Hid (D.set i (row.map (· / by_)) = divL D i col) := hid (by
        unfold divL; rw [getD_row hiD, hrow, hbye])
      rw [hbye] at hby
      have bx := Bx.new wr #[.bool false, .slice none 0 0, .slice none 0 0] 34
      have hhd' := hid hhd
      have hrow' := hid hrow
      clear hhd hrow hDe hcole hbye
      go_wp2_with (first | (with_reducible refine up_ix1 slInt (by omega) (by assumption) ?_) | (with_reducible refine up_ix1 slRats (by omega) (by assumption) ?_) | (with_reducible refine up_ixn slRat (by omega) (by assumption) ?_) | ((with_reducible show wpList _ _ _ (⟨_, .load 34 _, _, _, _, _⟩ :: _) _ _); refine st_loadOL stRat col hR hcr rfl (by simp) QC.agg ?_; intro u5 hu5; rw [hby.out, hun.out] at hu5; obtain ⟨s5, a5, n5, c5, d5, k5, e5, rfl⟩ := hu5.shape) | ((with_reducible show wpList _ _ _ (⟨_, .store _ _ _, _, _, _, _⟩ :: _) _ _); refine st_storeBox stRat rfl rfl bx rfl rfl (one3 _ _ _ _ _ _ _) ?_; intro w5 r1 r2; have y2 := (ExtX.box ((ExtX.refl wr).alloc _) r2 (Nat.le_refl _) : Ext wr w5).cell y1))
      have hE5 : Ext wr w5 := ExtX.box ((ExtX.refl wr).alloc _) r2 (Nat.le_refl _)
      have hM5 := hM.ext0 hE5
      have hP5 := hP.ext0 (NatIn.elem _) hE5
      have hq5 : QV (mk (mz (un X po) ao hs') w5) (.agg #[.bool s5, .slice a5 n5 c5, .slice d5 k5 e5]) by_ := (mkx QC.mono hu5 hE5).qv hbq.out
      have hE15 := hE.trans (ExtX.of (Y := mb ao hs) hE5)
      obtain ⟨bb, hbb⟩ : ∃ bb, wr.heap.size = bb := ⟨_, rfl⟩
      rw [hbb] at r1 |-
      have hmbb : Hid (mb ao hs bb = false) := hid (by
        rw [<- hmb'.out]
        cases hb : mb ao hs' bb
        · rfl
        · have := (hM.mb_block hb).2; omega)
      obtain ⟨R, hRe⟩ : ∃ R, row.map (· / by_) = R := ⟨_, rfl⟩
      have hRl : Hid (R.length = na) := hid (by rw [<- hRe, List.length_map]; exact hrl.out)
      have hRr : Hid (R.length = row.length) := hid (by rw [hRl.out, hrl.out])
      have hRj : Hid (∀ j (h1 : j < row.length) (h2 : j < R.length), R[j] = row[j] / by_) := hid fun j h1 h2 => by subst hRe; simp
      rw [hRe] at hdiv
      have hM5' : MO (un X po) base 27 34 w5 ao cap hs' (D.set i (mix R row 0)) := by
        rw [mix_zero, <- hrow'.out, List.set_getElem_self]; exact hM5
      clear hR hRe bx y1 y2 hM5 hu5 hM hP
      go_loopw [36] (fun k wx => ∃ (j : Nat), k = .int .i64 j /\ j <= na /\ MO (un X po) base 27 34 wx ao cap hs' (D.set i (mix R row j)) /\ OL (NatIn .i64) 1 (mz X ao hs) w.heap.size 3 wx po pc p /\ Bx wx bb #[.bool s5, .slice a5 n5 c5, .slice d5 k5 e5] 34 /\ QV (mk (mz (un X po) ao hs') wx) (.agg #[.bool s5, .slice a5 n5 c5, .slice d5 k5 e5]) by_ /\ ExtX (mb ao hs) w wx) (fun k _ => na - (intOf k).toNat)
      case atStart => exact ⟨0, rfl, Nat.zero_le _, hM5', hP5, r1, hq5, hE15⟩
      case round =>
        obtain ⟨j, rfl, hj, hM, hP, hB7, hq7, hE⟩ := hrel
        by_cases hlj : j < na
        · have hjr : j < row.length := by rw [hrl.out]; exact hlj
          have hjR : j < R.length := by rw [hRl.out]; exact hlj
          have hml : Hid ((mix R row j).length = na) := hid (by rw [mix_len hRr.out, hRl.out])
          have hjm : j < (mix R row j).length := by rw [hml.out]; exact hlj
          have hmg : Hid ((mix R row j)[j] = row[j]) := hid (by rw [mix_getElem hRr.out, if_neg (by omega)])
          have hjs : Hid ((mix R row j).set j R[j] = mix R row (j + 1)) := hid (mix_set hRr.out hjR)
          have hRjj := hid (hRj.out j hjr hjR)
          have hbr := hid (hBrow.out row[j] (List.getElem_mem _))
          have hset9 : Hid (i < (D.set i (mix R row j)).length) := hid (by rw [List.length_set]; exact hiD)
          have hR := hM.row i hih hset9.out
          rw [List.getElem_set_self] at hR
          simp only [hhd'.out] at hR
          obtain ⟨x, hx⟩ : ∃ x, row[j] = x := ⟨_, rfl⟩
          obtain ⟨v, hv⟩ : ∃ v, R[j] = v := ⟨_, rfl⟩
          rw [hx] at hmg hbr hRjj
          rw [hv] at hjs hRjj
          have hXr : HX X wr := hn0.out.ext hE
          have hXu : HX (un X po) wr := fun k hk => by
            by_cases hx : X k = true
            · exact hXr k hx
            · exact (hP.block (by simpa [un, hx] using hk)).2
          have hXz := hM.hz hXu
          obtain ⟨g, o, hg⟩ : ∃ g o, adr a (j * 3) = ⟨g, o, none⟩ := ⟨_, _, rfl⟩
          have i1 : ∀ W, (Instr.indexAt 25 (.slice ao n cap) (.int .i64 (i : Int))).run Tryz.prog W = .ok (.pointer (some (adr ao i))) W := run_ix1 slRats ao n cap .i64 i hhO (by omega) rfl
          have bx := Bx.new wr #[.bool false, .slice none 0 0, .slice none 0 0] 34
          have y1 : wr.cell? (adr ao i) = some (.slice a na cr) := by
            have := (hM.hdr i hih).1
            rw [hhd'.out] at this; exact this
          have hsp2 := hid hsp
          replace hg := hid hg
          clear hx hv hsp
          go_wp2_with (first | (with_reducible refine up_ixn slRat (by omega) (by assumption) ?_) | ((with_reducible show wpList _ _ _ (⟨_, .load 34 _, _, _, _, _⟩ :: _) _ _); refine st_loadOL stRat j hR hjm rfl (by simp) QC.agg ?_; intro u6 hu6; rw [hmg.out, hun.out] at hu6; obtain ⟨s6, a6, n6, c6, d6, k6, e6, rfl⟩ := hu6.shape) | ((with_reducible show wpList _ _ _ (⟨_, .store _ _ _, _, _, _, _⟩ :: _) _ _); refine st_storeBox stRat rfl rfl bx rfl rfl (one3 _ _ _ _ _ _ _) ?_; intro w6 r3 r4))
          have i2 : ∀ W, (Instr.indexAt 27 (.slice a na cr) (.int .i64 (j : Int))).run Tryz.prog W = .ok (.pointer (some ⟨g, o, none⟩)) W := by rw [<- hg.out]; exact run_indexAt_adr slRat a na cr .i64 j hda (by omega)
          have hE6 : Ext wr w6 := ExtX.box ((ExtX.refl wr).alloc _) r4 (Nat.le_refl _)
          have hEd : Ext w6 w6.drew := (ExtX.refl w6).drew
          have hE6d := hE6.trans hEd
          have hM6 := hM.ext0 hE6d
          have hP6 := hP.ext0 (NatIn.elem _) hE6d
          have hR6 := hR.ext0 QC.elem hE6d
          have hB6 := hB7.ext0 hE6d
          have hx6 : QV (mk (mz (un X po) ao hs') w6.drew) (.agg #[.bool s6, .slice a6 n6 c6, .slice d6 k6 e6]) x := (mkx QC.mono hu6 hE6d).qv hbr.out
          have hb6 : QV (mk (mz (un X po) ao hs') w6.drew) (.agg #[.bool s5, .slice a5 n5 c5, .slice d5 k5 e5]) by_ := mkx QV.mono hq7 hE6d
          have hXd := hXz.ext hE6d
          have r3d := r3.ext0 hEd
          obtain ⟨bw, hbw⟩ : ∃ bw, wr.heap.size = bw := ⟨_, rfl⟩
          rw [hbw] at r3d
          have hab : Hid (ob a bw = false) := hid (by rw [<- hbw]; exact hR.ob_ge (Nat.le_refl _))
          have habb : Hid (ob a bb = false) := hid (by
            cases hb : ob a bb
            · rfl
            · have h5 : mb ao hs' bb = true := mb_iff.2 (.inr (obs_get hih (show ob hs'[i].1 bb = true by rw [hhd'.out]; exact hb)))
              rw [hmb'.out, hmbb.out] at h5; simp at h5)
          have hS : Hid (∀ Y W', ExtX Y w6.drew W' -> Y (adr ao i).block = false -> Y bw = false -> Y bb = false -> W'.cell? (adr ao i) = some (.slice a na cr) /\ W'.cell? ⟨bw, 0, none⟩ = some (.bool s6) /\ W'.cell? ⟨bw, 1, none⟩ = some (.slice a6 n6 c6) /\ W'.cell? ⟨bw, 2, none⟩ = some (.slice d6 k6 e6) /\ W'.cell? ⟨bb, 0, none⟩ = some (.bool s5) /\ W'.cell? ⟨bb, 1, none⟩ = some (.slice a5 n5 c5) /\ W'.cell? ⟨bb, 2, none⟩ = some (.slice d5 k5 e5)) := hid fun Y W' h hy1 hy2 hy3 => by
            have z2 := r3d.ext h hy2
            have z3 := hB6.ext h hy3
            exact ⟨h.cellY (hE6d.cell y1) hy1, z2.cell 0 rfl, z2.cell 1 rfl, z2.cell 2 rfl, z3.cell 0 rfl, z3.cell 1 rfl, z3.cell 2 rfl⟩
          obtain ⟨k00, k10, k11, k12, k20, k21, k22⟩ := hS.out noY w6.drew (ExtX.refl _) rfl rfl rfl
          have qd := qdiv (mz (un X po) ao hs') w6.drew _ _ _ _ hXd hx6 hb6
          rw [<- hRjj.out] at qd
          have qd2 : Calls Tryz.prog 168 #[.agg #[.bool s6, .slice a6 n6 c6, .slice d6 k6 e6], .agg #[.bool s5, .slice a5 n5 c5, .slice d5 k5 e5]] w6.drew (fun e w' => Ext w6.drew w' /\ ∃ u ec, e = .returned (.tuple #[u, .int .i64 ec]) /\ QC (mk (mz (un X po) ao hs') w') u v) := qd.mono fun e w' ⟨q1, u, q2, q3⟩ => ⟨q1, u, _, q2, q3⟩
          clear qd r3 bx y1
          rw [hbw]
          go_wp2_with fail
          go_region_held3 (fun w' => w'.cell? (adr ao i) = some (.slice a na cr) /\ w'.cell? ⟨bw, 0, none⟩ = some (.bool s6) /\ w'.cell? ⟨bw, 1, none⟩ = some (.slice a6 n6 c6) /\ w'.cell? ⟨bw, 2, none⟩ = some (.slice d6 k6 e6) /\ w'.cell? ⟨bb, 0, none⟩ = some (.bool s5) /\ w'.cell? ⟨bb, 1, none⟩ = some (.slice a5 n5 c5) /\ w'.cell? ⟨bb, 2, none⟩ = some (.slice d5 k5 e5))
            (first | exact hS.out noY _ t1 rfl rfl rfl | exact hS.out (ob a) _ ((ExtX.of t1).trans hset.2) haob.out hab.out habb.out | go_keep)
            ((go_at_call 168; (with_reducible refine qd2.mono ?_); rintro ee w7 ⟨t1, u7, ec7, rfl, hu7⟩; obtain ⟨s7, a7, n7, c7, d7, k7, e7, rfl⟩ := hu7.shape; have hO7 := hR6.ext0 QC.elem t1; obtain ⟨_, v0, v1, v2, _, ⟨g0, f0⟩, ⟨g1, f1⟩, ⟨g2, f2⟩, _⟩ := hO7.cell3 j hjm hg.out; have hset := hO7.set3 tyRat QC.elem j hjm hg.out (v0 := .bool s7) (v1 := .slice a7 n7 c7) (v2 := .slice d7 k7 e7) (x := v) (by rw [hun.out]; exact hu7)))
          obtain ⟨q1, q2⟩ := hset
          rw [hjs.out] at q1
          obtain ⟨w8, hw8⟩ : ∃ w8, ((w7.setCell ⟨g, o, none⟩ (.bool s7)).setCell ⟨g, o + 1, none⟩ (.slice a7 n7 c7)).setCell ⟨g, o + 2, none⟩ (.slice d7 k7 e7) = w8 := ⟨_, rfl⟩
          rw [hw8] at q1 q2 |-
          have q2' : ExtX (ob hs'[i].1) w7 w8 := by rw [hhd'.out]; exact q2
          have hM7 := (hM6.ext0 t1).upd hih (l := mix R row (j + 1)) q2' (fun hi' => by rw [List.getElem_set_self, mix_len hRr.out, mix_len hRr.out]) (by rw [hhd'.out]; exact q1)
          rw [List.set_set] at hM7
          have hP8 := (hP6.ext0 (NatIn.elem _) t1).frame (NatIn.pure _) q2 (fun k hk => by
            cases hb : ob a k
            · rfl
            · have := (hsp2.out k hb).1; rw [un_right hk] at this; simp at this) hP.1
          have hB8 := (hB6.ext0 t1).ext q2 habb.out
          have hq8 := QV.mono _ _ _ _ (mk_mono q2 hz1) (mkx QV.mono hb6 t1)
          have hE8 := (hE.trans (ExtX.of (hE6d.trans t1))).trans (show ExtX (mb ao hs) w7 w8 by rw [<- hmb'.out]; exact ExtX.row hih q2')
          clear k00 k10 k11 k12 k20 k21 k22 g0 g1 g2 f0 f1 f2 i1 i2 hw8
          go_wp2_with fail
          go_roundw
          case rel => exact ⟨j + 1, by go_num, by omega, hM7, hP8, hB8, hq8, hE8⟩
          case measure => simp [intOf]; omega
        · have hjn : j = na := by omega
          subst hjn
          rw [mix_full (by rw [hRl.out]; exact Nat.le_refl _) (by rw [hrl.out]; exact Nat.le_refl _), hdiv.out] at hM
          obtain ⟨D2, hD2⟩ : ∃ D2, divL D i col = D2 := ⟨_, rfl⟩
          have hsh2 : Shp n j D2 := by rw [<- hD2]; exact hDs.divL hin col
          have hbnd : Hid (∀ t, t < i -> BR 68719476736 (D2.getD t []) /\ BR 68719476736 (D2.getD i []) /\ hq ((D2.getD t []).getD col 0 / (D2.getD i []).getD col 0) <= 68719476736 /\ ∀ x ∈ D2.getD i [], hq ((D2.getD t []).getD col 0 / (D2.getD i []).getD col 0 * x) <= 68719476736) := hid fun t ht => by
            rw [<- hD2]; exact elim_bounds2 hDs hDBi hin (by omega) (by omega) hDbi
          have hdn2 : Hid (above D2 i col i = dN E p (i + 1)) := hid (by rw [hdn.out]; unfold dStep; rw [hD2])
          rw [hD2] at hM
          have hD2l := hid hsh2.1
          have hM' : MO (un X po) base 27 34 wr ao cap hs' (above D2 i col 0) := by rw [above_zero]; exact hM
          have hicap : i <= cap := by omega
          have f1 : ∀ W, (Instr.sliceAt 25 (.slice ao n cap) none (some (.int .i64 (i : Int))) none).run Tryz.prog W = .ok (.slice ao i cap) W := run_slice_to slRats n cap .i64 i hicap
          have hhOi : Hd ao i := fun h0 => hhO (by omega)
          clear hM hD2 hB7 hq7
          go_wp2_with fail
          go_loopw [58] (fun k wx => ∃ (s : Nat), k = .int .i64 s /\ s <= i /\ MO (un X po) base 27 34 wx ao cap hs' (above D2 i col s) /\ OL (NatIn .i64) 1 (mz X ao hs) w.heap.size 3 wx po pc p /\ ExtX (mb ao hs) w wx) (fun k _ => i - (intOf k).toNat)
          case atStart => exact ⟨0, rfl, Nat.zero_le _, hM', hP, hE⟩
          case round =>
            obtain ⟨s, rfl, hs9, hM8, hP8, hE8⟩ := hrel
            by_cases hls : s < i
            · have htn : s < n := by omega
              have hth : s < hs'.length := by rw [hlen.out]; exact htn
              have htm : s < D2.length := by rw [hD2l.out]; exact htn
              have hpm : i < D2.length := by rw [hD2l.out]; exact hin
              have htc : s < (above D2 i col s).length := by rw [above_len]; exact htm
              have hpc : i < (above D2 i col s).length := by rw [above_len]; exact hpm
              obtain ⟨a1, n1, c1, hh1⟩ : ∃ a n c, hs'[s] = (a, n, c) := ⟨_, _, _, rfl⟩
              have hg1 : (above D2 i col s)[s] = D2[s] := by rw [above_get htc htm, if_neg (by omega)]
              have hg2 : (above D2 i col s)[i] = D2[i] := by rw [above_get hpc hpm, if_neg (by omega)]
              have hn1' : n1 = j := by
                have := hM8.rlen s hth htc
                rw [hh1, hg1, hsh2.2 _ (List.getElem_mem _)] at this; exact this
              subst hn1'
              have hR1 := hM8.row s hth htc
              have hR2 := hM8.row i hih hpc
              rw [hg1] at hR1
              rw [hg2] at hR2
              simp only [hh1] at hR1
              simp only [hhd'.out] at hR2
              have hzz1 := fun k (hk : ob a1 k = true) => hM8.mz_sub hth k (by rw [hh1]; exact hk)
              have hzz2 := fun k (hk : ob a k = true) => hM8.mz_sub hih k (by rw [hhd'.out]; exact hk)
              have hds : ∀ k, ob a1 k = true -> ob a k = false := fun k hk => by
                have := hM8.dis s i hth hih (by omega) k (by rw [hh1]; exact hk)
                rw [hhd'.out] at this; exact this
              have hsp1 := fun k (hk : ob a1 k = true) => hM8.sep s hth k (by rw [hh1]; exact hk)
              have hBn := hbnd.out s hls
              rw [getD_row htm] at hBn
              have hcs : Hid ((above D2 i col s).set s (elimL D2[s] (D2.getD i []) col) = above D2 i col (s + 1)) := hid (above_set htm hls)
              have hpe : D2.getD i [] = D2[i] := getD_row hpm
              rw [<- hpe] at hR2
              have hrl1 := hid (hsh2.2 D2[s] (List.getElem_mem _))
              have hrl2 := hid (show (D2.getD i []).length = n1 by rw [hpe]; exact hsh2.2 _ (List.getElem_mem _))
              obtain ⟨rw1, hrow1⟩ : ∃ rw1, D2[s] = rw1 := ⟨_, rfl⟩
              obtain ⟨piv, hpiv⟩ : ∃ piv, D2.getD i [] = piv := ⟨_, rfl⟩
              rw [hrow1, hpiv] at hcs
              rw [hrow1] at hR1 hrl1
              rw [hpiv] at hR2 hrl2
              rw [hrow1, hpiv] at hBn
              have hX8 : HX (un X po) wr := fun k hk => by
                by_cases hx : X k = true
                · exact hn0.out.ext hE8 k hx
                · exact (hP8.block (by simpa [un, hx] using hk)).2
              have hZ8 := hM8.hz hX8
              have hel := eliminate_any (mz (un X po) ao hs') base wr a1 a c1 cr n1 col rw1 piv hZ8 hR1 hR2 hzz1 hzz2 hds hrl1.out hrl2.out (by omega) hcl hBn.1 hBn.2.1 hBn.2.2.1 hBn.2.2.2
              have y1 : wr.cell? (adr ao s) = some (.slice a1 n1 c1) := by
                have := (hM8.hdr s hth).1
                rw [hh1] at this; exact this
              have y2 : wr.cell? (adr ao i) = some (.slice a n1 cr) := by
                have := (hM8.hdr i hih).1
                rw [hhd'.out] at this; exact this
              have hh1' := hid hh1
              clear hg1 hg2 hpe hrow1 hpiv hh1 hR1 hR2 hBn f1
              go_wp2_with (with_reducible refine up_ix1 slRats (by omega) (by assumption) ?_)
              refine hel.mono ?_
              rintro ee w7 ⟨rfl, t1, hO7⟩
              have hEr : ExtX (ob hs'[s].1) wr w7 := by rw [hh1'.out]; exact t1
              have hM9 := hM8.upd hth (l := elimL rw1 piv col) hEr (fun hi' => by
                rw [above_get htc htm, if_neg (by omega), elimL_len _ _ _ (by rw [hrl1.out, hrl2.out]), hrl2.out]
                exact (hsh2.2 _ (List.getElem_mem _)).symm) (by rw [hh1'.out]; exact hO7)
              rw [hcs.out] at hM9
              have hP9 := hP8.frame (NatIn.pure _) t1 (fun k hk => by
                cases hb : ob a1 k
                · rfl
                · have := (hsp1 k hb).1; rw [un_right hk] at this; simp at this) hP8.1
              have hE9 := hE8.trans (show ExtX (mb ao hs) wr w7 by rw [<- hmb'.out]; exact ExtX.row hth hEr)
              clear y1 y2
              go_wp2_with fail
              go_roundw
              case rel => exact ⟨s + 1, by go_num, by omega, hM9, hP9, hE9⟩
              case measure => simp [intOf]; omega
            · have hsi : s = i := by omega
              subst hsi
              rw [hdn2.out] at hM8
              go_wp2_with fail
              go_roundw
              case rel => exact ⟨s + 1, by go_num, by omega, hM8, hP8, hE8⟩
              case measure => simp [intOf]; omega
    · have hil : i = pl := by omega
      subst hil
      rw [<- hpl'.out] at hM
      go_wp2_with fail
      go_ret
      exact ⟨hE, po, pc, hs', by rw [hpl'.out]; rfl, hmb'.out, hM, hP⟩
end Go.Proofs.YthipmbmjodhiiaaGreat
namespace Go.Proofs.YthipmbmjodhiiaaGreat
open Go.RowKit Go.Rep Go.Lim Go.Lin
def M3Out (X : Nat -> Bool) (w : World) (m : List (List Rat)) (p : List Nat) (e : Ending) (w' : World) : Prop := Ext w w' /\ ∃ u v, e = .returned (.tuple #[u, v, .int .i64 0]) /\ MC (mk X w') u m /\ SlV (NatIn .i64) 1 (mk X w') v p
theorem preduce_ok (X : Nat -> Bool) (w : World) (u : Value) (m : List (List Rat)) (hX : HX X w) (hu : MV (mk X w) u m) (hf : formedB m = true) (hT : Tame m (colsL m)) : Calls Tryz.prog 123 #[u] w (M3Out X w (redP m (colsL m)).1 (redP m (colsL m)).2) := by
  obtain ⟨hsh, h96, hc96, _, _⟩ := formedB_shp hf
  have hfo := formed_any X w u m hu (by omega)
  rw [hf] at hfo
  have hco := copied_any X w u m m.length (colsL m) hX hu hsh rfl (by omega) (by omega)
  have hrs := hid (redP_ok hsh).1
  clear hf
  go_enter Tryz.func123, Tryz.ntmps123
  go_wp2_with fail
  refine hfo.mono ?_
  rintro e w1 ⟨rfl, rfl⟩
  go_wp2_with fail
  refine hco.mono ?_
  rintro e w2 ⟨hE2, ao, cap, hs, rfl, hM2⟩
  go_wp2_with fail
  refine (mreduce_any X _ w2 ao cap m.length (colsL m) hs m (hX.ext hE2) hM2 hsh rfl (by omega) (by omega) hT).mono ?_
  rintro e w3 ⟨hE3, po, pc, hs', rfl, hmb, hM3, hP3⟩
  have hEf := hM2.ext_from hE2 (Nat.le_refl _) hE3
  have hmc := MC.mono _ _ _ _ (mk_sub (X := X) fun k _ hk => un_left hk) hM3.mc
  have hps : SlV (NatIn .i64) 1 (mk X w3) (.slice po (redP m (colsL m)).2.length pc) (redP m (colsL m)).2 := ⟨po, pc, rfl, hP3.lenCap, (hP3.sl (NatIn.elem _)).mono (NatIn.mono _) (mk_sub fun k _ hk => mz_iff.2 (.inl hk))⟩
  rw [hrs.out.1] at hmc
  go_wp2_with fail
  go_ret3
  exact ⟨hEf, _, _, rfl, hmc, hps⟩
end Go.Proofs.YthipmbmjodhiiaaGreat
namespace Go.Proofs.YthipmbmjodhiiaaGreat
open Go.RowKit Go.Rep Go.Lim Go.Lin
def M2Out (X : Nat -> Bool) (w : World) (m : List (List Rat)) (e : Ending) (w' : World) : Prop := Ext w w' /\ ∃ u, e = .returned (.tuple #[u, .int .i64 0]) /\ MC (mk X w') u m
end Go.Proofs.YthipmbmjodhiiaaGreat
namespace Go.Proofs.YthipmbmjodhiiaaGreat
open Go.RowKit Go.Rep Go.Lim Go.Lin
end Go.Proofs.YthipmbmjodhiiaaGreat
namespace Go.Lin
open Go.Lim
theorem bm_hb {B : Nat} {m : Mat} (h : Go.Rep.BM B m) (hB : 1 <= B) : HB B m := fun i j => by
  unfold ent
  by_cases hi : i < m.length
  · have e : m.getD i [] = m[i] := by simp [List.getD_eq_getElem?_getD, hi]
    rw [e]
    by_cases hj : j < (m[i]).length
    · have := h m[i] (List.getElem_mem _) (m[i])[j] (List.getElem_mem _)
      simpa [List.getD_eq_getElem?_getD, hj] using this
    · rw [List.getD_eq_getElem?_getD, List.getElem?_eq_none (by omega)]
      show hq 0 <= B
      rw [hq_zero]; exact hB
  · rw [List.getD_eq_getElem?_getD (l := m), List.getElem?_eq_none (by omega)]
    show hq 0 <= B
    rw [hq_zero]; exact hB
theorem hb_bm {B : Nat} {m : Mat} (h : HB B m) : Go.Rep.BM B m := fun r hr q hq => by
  obtain ⟨i, hi, rfl⟩ := List.getElem_of_mem hr
  obtain ⟨j, hj, rfl⟩ := List.getElem_of_mem hq
  have := h i j
  simpa [ent, List.getD_eq_getElem?_getD, hi, hj] using this
end Go.Lin
namespace Go.Proofs.YthipmbmjodhiiaaGreat
open Go.RowKit Go.Rep Go.Lim Go.Lin
end Go.Proofs.YthipmbmjodhiiaaGreat
namespace Go.Lin
open Go.Lim
end Go.Lin
namespace Go.Lin
open Go.Lim
def xN (R : Mat) (p : List Nat) (c col : Nat) : Nat -> List Rat
  | 0 => (List.replicate c 0).set col 1
  | i + 1 => (xN R p c col i).set (p.getD i 0) (- ent R i col)
theorem xN_len (R : Mat) (p : List Nat) (c col i : Nat) : (xN R p c col i).length = c := by
  induction i with
  | zero => show ((List.replicate c (0 : Rat)).set col 1).length = c; rw [List.length_set, List.length_replicate]
  | succ i ih => show ((xN R p c col i).set _ _).length = c; rw [List.length_set, ih]
theorem xN_get {n c col : Nat} {R : Mat} {p : List Nat} (hr : Rref n c (ent R) p) (hcp : col ∉ p) (i : Nat) (hi : i <= p.length) (x : Nat) (hx : x < c) : (xN R p c col i).getD x 0 = if x = col then 1 else match p.findIdx? (· == x) with | some k => if k < i then - ent R k col else 0 | none => 0 := by
  induction i with
  | zero =>
    show ((List.replicate c (0 : Rat)).set col 1).getD x 0 = _
    rw [List.getD_eq_getElem?_getD, List.getElem?_set, List.length_replicate]
    by_cases h : col = x
    · subst h; rw [if_pos rfl, if_pos hx, if_pos rfl]; rfl
    · rw [if_neg h, if_neg (Ne.symm h)]
      have : ((List.replicate c (0 : Rat))[x]?).getD 0 = 0 := by simp [hx]
      rw [this]; cases p.findIdx? (· == x) <;> simp
  | succ i ih =>
    have hip : i < p.length := by omega
    have hpi : p.getD i 0 = p[i] := by simp [List.getD_eq_getElem?_getD, hip]
    show ((xN R p c col i).set (p.getD i 0) (- ent R i col)).getD x 0 = _
    rw [hpi, List.getD_eq_getElem?_getD, List.getElem?_set, xN_len]
    by_cases h : p[i] = x
    · have hxc : x ≠ col := by rintro rfl; exact hcp (h ▸ List.getElem_mem _)
      rw [if_pos h, if_pos (by omega), if_neg hxc, <- h, hr.idx i hip]; simp
    · rw [if_neg h, <- List.getD_eq_getElem?_getD, ih (by omega)]
      cases hf : p.findIdx? (· == x) with
      | none => rfl
      | some k =>
        obtain ⟨hk1, hk2, _⟩ := List.findIdx?_eq_some_iff_getElem.1 hf
        have hki : k ≠ i := by rintro rfl; exact h (by simpa using hk2)
        dsimp only
        by_cases h2 : k < i
        · rw [if_pos h2, if_pos (show k < i + 1 by omega)]
        · rw [if_neg h2, if_neg (show ¬ k < i + 1 by omega)]
theorem xN_full {n c col : Nat} {R : Mat} {p : List Nat} (hr : Rref n c (ent R) p) (hcp : col ∉ p) : xN R p c col p.length = (List.range c).map (nv (ent R) p col) := by
  refine List.ext_getElem (by rw [xN_len]; simp) fun x h1 h2 => ?_
  have hx : x < c := by rw [xN_len] at h1; exact h1
  have := xN_get hr hcp _ (Nat.le_refl _) x hx
  rw [List.getD_eq_getElem?_getD, List.getElem?_eq_getElem h1] at this
  rw [show (xN R p c col p.length)[x] = _ from this]
  simp only [List.getElem_map, List.getElem_range]
  unfold nv
  by_cases h : x = col
  · rw [if_pos h, if_pos h]
  · rw [if_neg h, if_neg h]
    cases hf : p.findIdx? (· == x) with
    | none => rfl
    | some k =>
      obtain ⟨hk1, _⟩ := List.findIdx?_eq_some_iff_getElem.1 hf
      dsimp only
      rw [if_pos hk1]
def nullK (r : F2) (p : List Nat) (c k : Nat) : Mat := ((List.range k).filter (· ∉ p)).map fun j => (List.range c).map (nv r p j)
theorem nullK_skip (r : F2) {p : List Nat} (c : Nat) {k : Nat} (h : k ∈ p) : nullK r p c (k + 1) = nullK r p c k := by
  unfold nullK; rw [List.range_succ, List.filter_append]; simp [h]
theorem nullK_push (r : F2) {p : List Nat} (c : Nat) {k : Nat} (h : k ∉ p) : nullK r p c (k + 1) = nullK r p c k ++ [(List.range c).map (nv r p k)] := by
  unfold nullK; rw [List.range_succ, List.filter_append, List.map_append]; simp [h]
theorem tame_bm {m : Mat} {c : Nat} (h : Tame m c) : Go.Rep.BM 9817068105 (redP m c).1 := by
  obtain ⟨B, h1, _, h3⟩ := h
  have := (h3 _ (Nat.le_refl _)).bm
  exact fun r hr q hq => Nat.le_trans (this r hr q hq) (by omega)
end Go.Lin
namespace Go.Proofs.YthipmbmjodhiiaaGreat
open Go.RowKit Go.Rep Go.Lim Go.Lin
theorem indexint_any (X : Nat -> Bool) (w : World) (ao : Option Addr) (l : List Nat) (n c x : Nat) (hs : Sl (NatIn .i64) 1 (mk X w) ao l) (hl : l.length = n) (hn : n <= 1000000) : Calls Tryz.prog 150 #[.slice ao n c, .int .i64 (x : Int)] w (fun e w' => w' = w /\ ∃ k : Int, e = .returned (.int .i64 k) /\ (0 <= k ↔ x ∈ l)) := by
  have hh : Hd ao n := by have := hs.hd; rw [hl] at this; exact this
  have hl' := hid hl
  clear hl
  go_enter Tryz.func150, Tryz.ntmps150
  go_wp2_with fail
  go_loopw [8] (fun k wr => ∃ (i : Nat), k = .int .i64 i /\ i <= n /\ Hid (∀ q (hq : q < l.length), q < i -> l[q] ≠ x) /\ wr = w) (fun k _ => n - (intOf k).toNat)
  case atStart => exact ⟨0, rfl, Nat.zero_le _, hid (fun q hq h => by omega), rfl⟩
  case round =>
    obtain ⟨i, rfl, hi, hok, rfl⟩ := hrel
    by_cases hlt : i < n
    · have hil : i < l.length := by rw [hl'.out]; exact hlt
      have hc := hs.nat i hil
      by_cases hx : l[i] = x
      · have hb : ((x : Int) == (l[i] : Int)) = true := beqT (by omega)
        have hm : Hid (x ∈ l) := hid (hx ▸ List.getElem_mem _)
        obtain ⟨y, hy⟩ : ∃ y, (l[i] : Int) = y := ⟨_, rfl⟩
        rw [hy] at hc hb
        clear hx hy
        go_wp2_with (with_reducible refine up_ix1 slInt (by omega) (by assumption) ?_)
        go_ret
        exact ⟨rfl, _, rfl, ⟨fun _ => hm.out, fun _ => by omega⟩⟩
      · have hb : ((x : Int) == (l[i] : Int)) = false := beqF (by omega)
        have hok2 : Hid (∀ q (hq : q < l.length), q < i + 1 -> l[q] ≠ x) := hid fun q hq hqi => by
          by_cases h : q = i
          · subst h; exact hx
          · exact hok.out q hq (by omega)
        obtain ⟨y, hy⟩ : ∃ y, (l[i] : Int) = y := ⟨_, rfl⟩
        rw [hy] at hc hb
        clear hx hy
        go_wp2_with (with_reducible refine up_ix1 slInt (by omega) (by assumption) ?_)
        go_roundw
        case rel => exact ⟨i + 1, by go_num, by omega, hok2, trivial⟩
        case measure => simp [intOf]; omega
    · have hno : Hid (x ∉ l) := hid fun hm => by
        obtain ⟨q, hq, hqx⟩ := List.getElem_of_mem hm
        exact hok.out q hq (by rw [hl'.out] at hq; omega) hqx
      go_wp2_with fail
      go_ret
      exact ⟨rfl, _, rfl, ⟨fun h => by omega, fun h => absurd h hno.out⟩⟩
theorem contains_any (X : Nat -> Bool) (w : World) (ao : Option Addr) (l : List Nat) (n c x : Nat) (hs : Sl (NatIn .i64) 1 (mk X w) ao l) (hl : l.length = n) (hn : n <= 1000000) : Calls Tryz.prog 125 #[.slice ao n c, .int .i64 (x : Int)] w (fun e w' => w' = w /\ e = .returned (.bool (decide (x ∈ l)))) := by
  have h1 := indexint_any X w ao l n c x hs hl hn
  clear hs hl hn
  go_enter Tryz.func125, Tryz.ntmps125
  go_wp2_with fail
  refine h1.mono ?_
  rintro e w1 ⟨rfl, k, rfl, hk⟩
  have hd : Hid (decide (0 <= k) = decide (x ∈ l)) := hid (decide_eq_decide.2 hk)
  clear hk
  go_wp2_with fail
  go_ret
  exact ⟨rfl, ret_bool hd.out⟩
set_option maxRecDepth 100000 in
set_option maxHeartbeats 1600000 in
theorem null_ok (X : Nat -> Bool) (w : World) (u : Value) (m : List (List Rat)) (n c : Nat) (hX : HX X w) (hu : MV (mk X w) u m) (hf : formedB m = true) (hnn : m.length = n) (hcc : colsL m = c) (hT : Tame m c) : Calls Tryz.prog 91 #[u] w (M2Out X w (nullL (ent (redP m c).1) (redP m c).2 c)) := by
  obtain ⟨hsh, h96, hc96, hpos, _⟩ := formedB_shp hf
  rw [hnn, hcc] at hsh
  rw [hnn] at h96
  rw [hcc] at hc96
  have hrd := preduce_ok X w u m hX hu hf (by rw [hcc]; exact hT)
  rw [hcc] at hrd
  have hcol := hid (fun w' (h : Ext w w') => columns_any X w' u m (mkx MV.mono hu h))
  rw [hcc] at hcol
  have hok := redP_ok hsh
  have hbm := hid (tame_bm hT)
  obtain ⟨⟨R, p⟩, hRp⟩ : ∃ S, redP m c = S := ⟨_, rfl⟩
  rw [hRp] at hrd hok hbm |-
  dsimp only at hrd hok hbm |-
  have hRs := hid hok.1
  have hRr := hid hok.2.1
  obtain ⟨pl, hpl⟩ : ∃ pl, p.length = pl := ⟨_, rfl⟩
  have hpl' := hid hpl
  have hpn : pl <= n := by have := hok.2.1.le; omega
  have hfull : Hid (nullK (ent R) p c c = nullL (ent R) p c) := hid rfl
  obtain ⟨ua, uca, rfl, huca, hua⟩ := hu
  clear hok hT hsh hf hnn hcc hRp huca hua hpos hpl
  go_enter Tryz.func91, Tryz.ntmps91
  go_wp2_with fail
  refine hrd.mono ?_
  rintro e w1 ⟨hE1, ur, uv, rfl, hur, huv⟩
  obtain ⟨ra, rca, rfl, hrca, hra⟩ := hur
  obtain ⟨pa, pca, rfl, hpca, hpa⟩ := huv
  have hhr : Hd ra n := by have := hra.hd; rw [hRs.out.1] at this; exact this
  have hhp : Hd pa pl := by have := hpa.hd; rw [hpl'.out] at this; exact this
  have hX1 := hX.ext hE1
  rw [hRs.out.1, hpl'.out]
  clear hrd
  go_wp2_with fail
  refine (hcol.out w1 hE1).mono ?_
  rintro e w2 ⟨rfl, rfl⟩
  go_wp2_with fail
  go_loopw [7, 23] (fun o kk wr => ∃ (k q : Nat) (oo : Option Addr) (co : Nat), kk = .int .i64 k /\ o = .slice oo q co /\ k <= c /\ q <= k /\ Hid ((nullK (ent R) p c k).length = q) /\ OL RC 1 X w2.heap.size 27 wr oo co (nullK (ent R) p c k) /\ Ext w2 wr) (fun _ kk _ => c - (intOf kk).toNat)
  case atStart => exact ⟨0, 0, none, 0, rfl, rfl, Nat.zero_le _, Nat.le_refl _, hid rfl, OL.nil _ _ _ _ _ _, ExtX.refl _⟩
  case round =>
    obtain ⟨k, q, oo, co, rfl, rfl, hk, hqk, hlq, hO, hE⟩ := hrel
    by_cases hlt : k < c
    · have hXr : HX X wr := hX1.ext hE
      have hXu : HX (un X oo) wr := hO.unX hXr
      have hcon := contains_any X wr pa p pl pca k (hpa.mono (NatIn.mono _) (mk_ext hE)) hpl'.out (by omega)
      have hw2r := hE.size
      by_cases hkp : k ∈ p
      · rw [decide_eq_true hkp] at hcon
        have hsk := hid (nullK_skip (ent R) c hkp)
        clear hkp
        go_wp2_with fail
        refine hcon.mono ?_
        rintro e w3 ⟨rfl, rfl⟩
        rw [<- hsk.out] at hO hlq
        go_wp2_with fail
        go_roundw
        case rel => exact ⟨k + 1, q, oo, co, by go_num, rfl, by omega, by omega, hlq, hO, hE⟩
        case measure => simp [intOf]; omega
      · rw [decide_eq_false hkp] at hcon
        have hps := hid (nullK_push (ent R) c hkp)
        have hxf := hid (xN_full hRr.out hkp)
        rw [hpl'.out] at hxf
        have hcl := hcol.out wr (hE1.trans hE)
        clear hkp
        obtain ⟨wo, hwo⟩ : ∃ wo, wo = wr := ⟨_, rfl⟩
        subst hwo
        go_wp2_with fail
        refine hcon.mono ?_
        rintro e w3 ⟨rfl, rfl⟩
        go_wp2_with fail
        refine hcl.mono ?_
        rintro e w4 ⟨rfl, rfl⟩
        clear hcon hcl
        go_wp2_with ((with_reducible show wpList _ _ _ (⟨_, .makeSlice _ _ _, _, _, _, _⟩ :: _) _ _); refine st_make (R := QC) slRat QC.elem (0 : Rat) (fun _ => QC.zero _) (un X oo) hXu w4.heap.size (Nat.le_refl _) c rfl rfl rfl (by omega) (by omega) ?_; intro xo w5 hO5 hE5)
        have hob := hid (fun k (hk : ob xo k = true) => hO5.block hk)
        have hxd : Hd xo c := by have := hO5.hd; rw [List.length_replicate] at this; exact this
        obtain ⟨Z, hZe⟩ : ∃ Z, un (un X oo) xo = Z := ⟨_, rfl⟩
        have hZ' := hid hZe
        have hZ5 : HX Z w5 := by rw [<- hZe]; exact hO5.unX (hXu.ext hE5)
        have hoob := hid (fun k (hk : ob oo k = true) => hO.block hk)
        have hXr' := hid hXr
        have hzold : Hid (∀ k, k < w2.heap.size -> Z k = true -> X k = true) := hid fun k hk hz => by
          rw [<- hZ'.out] at hz
          by_cases h1 : X k = true
          · exact h1
          · by_cases h2 : ob oo k = true
            · have := (hoob.out k h2).1; omega
            · have h3 : ob xo k = true := by simpa [un, h1, h2] using hz
              have := (hob.out k h3).1; omega
        have h1r : ((1 : Int) : Rat) = 1 := by decide +kernel
        have hqf := qfrom Z w5 1 hZ5 (by omega) (by omega)
        rw [h1r] at hqf
        have hkr : k < (List.replicate c (0 : Rat)).length := by rw [List.length_replicate]; exact hlt
        clear h1r hZe
        go_wp2_with fail
        refine hqf.mono ?_
        rintro e w6 ⟨hE6, u6, rfl, hu6⟩
        have hO6 := hO5.ext0 QC.elem hE6
        go_wp2_with (first | (with_reducible refine up_ixn slRat (by omega) (by assumption) ?_) | ((with_reducible show wpList _ _ _ (⟨_, .store 34 _ _, _, _, _, _⟩ :: _) _ _); refine st_store tyRat QC.elem k rfl (by simp) hO6 hkr _ 1 rfl (by rw [hZ'.out]; exact hu6) ?_; intro w7 hO7 hE7))
        have hE47 : Ext w4 w7 := (hE5.trans hE6).own hO6 (Nat.le_refl _) hE7
        clear hqf hO5 hO6
        go_loopw [38] (fun kk wi => ∃ (j : Nat), kk = .int .i64 j /\ j <= pl /\ OL QC 3 (un X oo) w4.heap.size 34 wi xo c (xN R p c k j) /\ Ext w4 wi) (fun kk _ => pl - (intOf kk).toNat)
        case atStart => exact ⟨0, rfl, Nat.zero_le _, hO7, hE47⟩
        case round =>
          obtain ⟨j, rfl, hj, hOx, hEx⟩ := hrel
          have hE2x := hE.trans hEx
          by_cases hlj : j < pl
          · have hjp : j < p.length := by rw [hpl'.out]; exact hlj
            have hpc := (hpa.mono (NatIn.mono _) (mk_ext hE2x)).nat j hjp
            have hpc1 : Hid (p[j] < c) := hid (hRr.out.lt j hjp)
            have hgd : Hid (p.getD j 0 = p[j]) := hid (by simp [List.getD_eq_getElem?_getD, hjp])
            obtain ⟨y, hy⟩ : ∃ y, p[j] = y := ⟨_, rfl⟩
            rw [hy] at hpc hpc1 hgd
            have hyc : y < c := hpc1.out
            have hjR : j < R.length := by rw [hRs.out.1]; omega
            have hrz : Sl RC 1 (mk Z wr) ra R := hra.mono RC.mono (mk_over hE2x (fun k _ hk => by simp [noY] at hk) hzold.out)
            obtain ⟨a1, c1, hX1', hc1, hcl1, hq1⟩ := hrz.row j hjR
            have k00 := hc1.out noY wr (ExtX.refl _) rfl
            have hxl : Hid (R[j].length = c) := hid (hRs.out.2 _ (List.getElem_mem _))
            have hxe : Hid (∀ h : k < R[j].length, R[j][k] = ent R j k) := hid fun h => by unfold ent; rw [show R.getD j [] = R[j] by simp [List.getD_eq_getElem?_getD, hjR]]; simp [List.getD_eq_getElem?_getD, h]
            have hbr := hid (hbm.out R[j] (List.getElem_mem _))
            obtain ⟨x, hx⟩ : ∃ x, R[j] = x := ⟨_, rfl⟩
            rw [hx] at k00 hcl1 hq1 hxl hxe hbr
            rw [hxl.out] at k00 hcl1
            have hh1 : Hd a1 c := by have := hq1.hd; rw [hxl.out] at this; exact this
            have hkx : k < x.length := by rw [hxl.out]; exact hlt
            have hxk := hid (hxe.out hkx)
            have hbk := hid (hbr.out x[k] (List.getElem_mem _))
            have hZr : HX Z wr := by
              rw [<- hZ'.out]
              exact hOx.unX (hXu.ext hEx)
            have hyx : y < (xN R p c k j).length := by rw [xN_len]; exact hyc
            have hst : Hid ((xN R p c k j).set y (- ent R j k) = xN R p c k (j + 1)) := hid (by rw [<- hgd.out]; rfl)
            obtain ⟨v, hv⟩ : ∃ v, x[k] = v := ⟨_, rfl⟩
            rw [hv] at hxk hbk
            have hv' := hid hv
            clear hx hc1 hy hv
            go_wp2_with (first | (with_reducible refine up_ix1 slInt (by omega) (by assumption) ?_) | (with_reducible refine up_ix1 slRats (by omega) (by assumption) ?_) | (with_reducible refine up_ixn slRat (by omega) (by assumption) ?_) | ((with_reducible show wpList _ _ _ (⟨_, .load 34 _, _, _, _, _⟩ :: _) _ _); refine st_loadElem stRat k hq1 hkx rfl (by simp) QC.agg ?_; intro u8 hu8; rw [hv'.out] at hu8; obtain ⟨s8, a8, n8, c8, d8, k8, e8, rfl⟩ := hu8.shape))
            refine (qneg Z wr _ v hZr (hu8.qv (by have := hbk.out; omega))).mono ?_
            rintro e w9 ⟨hE9, u9, rfl, hu9⟩
            have hO9 := hOx.ext0 QC.elem hE9
            rw [hxk.out] at hu9
            clear k00 hpc
            go_wp2_with (first | (with_reducible refine up_ixn slRat (by omega) (by assumption) ?_) | ((with_reducible show wpList _ _ _ (⟨_, .store 34 _ _, _, _, _, _⟩ :: _) _ _); refine st_store tyRat QC.elem y rfl (by simp) hO9 hyx _ (- ent R j k) rfl (by rw [hZ'.out]; exact hu9) ?_; intro w10 hO10 hE10))
            rw [hst.out] at hO10
            have hEx2 : Ext w4 w10 := (hEx.trans hE9).own hO9 (Nat.le_refl _) hE10
            go_roundw
            case rel => exact ⟨j + 1, by go_num, by omega, hO10, hEx2⟩
            case measure => simp [intOf]; omega
          · have hjl : j = pl := by omega
            subst hjl
            rw [hxf.out] at hOx
            obtain ⟨L, hL⟩ : ∃ L, (List.range c).map (nv (ent R) p k) = L := ⟨_, rfl⟩
            rw [hL] at hOx hps
            have hLl : L.length = c := by rw [<- hL]; simp
            have hsx := hOx.sl QC.elem
            have hlc := hOx.lenCap
            have hOw := hO.ext0 RC.elem hEx
            have hszx := hEx.size
            clear hL
            go_wp2_with (at_builtin; refine st_append1n (l := nullK (ent R) p c k) slRats rfl RC.elem (by omega) (hXr'.out.ext hEx) q hlq.out rfl rfl hOw (.slice xo c c) L rfl ⟨xo, c, by rw [hLl], hlc, hsx⟩ (by omega) (by omega) ?_; intro oo2 co2 w11 hO11 hE11 hor)
            have hE12 := (hE.trans hEx).own hOw (Nat.le_refl _) hE11
            rw [<- hps.out] at hO11
            have hlq2 : Hid ((nullK (ent R) p c (k + 1)).length = q + 1) := hid (by rw [hps.out, List.length_append, hlq.out]; rfl)
            go_roundw
            case rel => exact ⟨k + 1, q + 1, oo2, co2, by go_num, by go_num, by omega, by omega, hlq2, hO11, hE12⟩
            case measure => simp [intOf]; omega
    · have hkc : k = c := by omega
      subst hkc
      rw [hfull.out] at hO hlq
      have hc := hO.lenCap
      have hs := hO.sl RC.elem
      go_wp2_with fail
      go_ret2
      exact ⟨hE1.trans hE, .slice oo q co, rfl, oo, co, by rw [hlq.out], hc, hs⟩
end Go.Proofs.YthipmbmjodhiiaaGreat
namespace Go.Proofs.YthipmbmjodhiiaaGreat
open Go.RowKit Go.Rep Go.Lim
set_option maxRecDepth 100000 in
theorem eminus (X : Nat -> Bool) (w : World) (u v : Value) (l m : List Rat) (hX : HX X w) (hu : RV (mk X w) u l) (hv : RV (mk X w) v m) (hl : l.length <= 1000000) (hml : m.length = l.length) : Calls Tryz.prog 95 #[u, v] w (ROut X w RC (List.zipWith (· - ·) l m)) := by
  obtain ⟨ao, ca, rfl, hca, hsa⟩ := hu
  have hha := hsa.hd
  obtain ⟨bo, cb, rfl, hcb, hsb⟩ := hv
  have hhb := hsb.hd
  have hml1 : m.length <= l.length := by omega
  have hml2 : l.length <= m.length := by omega
  obtain ⟨L, hL⟩ : ∃ L, List.zipWith (· - ·) l m = L := ⟨_, rfl⟩
  have hLl : L.length = l.length := by rw [<- hL]; simp; omega
  have hLi := hid (show ∀ i (hi : i < l.length) (hj : i < m.length) (hi' : i < L.length), L[i] = l[i] - m[i] from fun i hi hj hi' => by subst hL; simp)
  rw [hL]
  have hLl1 : L.length <= l.length := by omega
  have hLl2 : l.length <= L.length := by omega
  have hLl' := hid hLl
  clear hL hml hLl
  go_enter Tryz.func95, Tryz.ntmps95
  go_wp2_with fail
  go_loopw [5, 9] (fun o cc wr => ∃ (i : Nat) (oo : Option Addr) (co : Nat), cc = .int .i64 i /\ o = .slice oo i co /\ i <= l.length /\ OL QC 3 X w.heap.size 34 wr oo co (L.take i) /\ Ext w wr) (fun _ cc _ => l.length - (intOf cc).toNat)
  case atStart => exact ⟨0, none, 0, rfl, rfl, Nat.zero_le _, OL.nil _ _ _ _ _ _, ExtX.refl _⟩
  case round =>
    obtain ⟨i, oo, co, rfl, rfl, hi, hO, hE⟩ := hrel
    have hXr : HX X wr := hX.ext hE
    have hXu : HX (un X oo) wr := hO.unX hXr
    have hbase := hE.size
    by_cases hlt : i < l.length
    · have hsr : Sl QV 3 (mk (un X oo) wr) ao l := hsa.old QV.mono hE (fun j hj => hO.ob_lt hj)
      have hltL : i < L.length := by omega
      have htk := hid (take_snoc L i hltL)
      have hln := hid (len_take (l := L) (i := i) (by omega))
      have hltm : i < m.length := by omega
      have hsr2 : Sl QV 3 (mk (un X oo) wr) bo m := hsb.old QV.mono hE (fun j hj => hO.ob_lt hj)
      obtain ⟨g2, o2, s2, a2, n2, c2, d2, k2, e2, hg2, hX2, hc2, hq2⟩ := hsr2.rat QV.shaped i hltm
      obtain ⟨g1, o1, s1, a1, n1, c1, d1, k1, e1, hg1, hX1, hc1, hq1⟩ := hsr.rat QV.shaped i hlt
      have hob1 := (un_false hX1).2
      have hobb := (un_false hX2).2
      have i2 : ∀ W, (Instr.indexAt 27 (.slice bo m.length cb) (.int .i64 (i : Int))).run Tryz.prog W = .ok (.pointer (some ⟨g2, o2, none⟩)) W := by rw [<- hg2]; exact run_indexAt_adr slRat bo m.length cb .i64 i hhb (by omega)
      have i1 : ∀ W, (Instr.indexAt 27 (.slice ao l.length ca) (.int .i64 (i : Int))).run Tryz.prog W = .ok (.pointer (some ⟨g1, o1, none⟩)) W := by rw [<- hg1]; exact run_indexAt_adr slRat ao l.length ca .i64 i hha (by omega)
      have hEd : Ext wr wr.drew := (ExtX.refl wr).drew
      have hS : Hid (∀ Y W', ExtX Y wr.drew W' -> Y g1 = false -> Y g2 = false -> W'.cell? ⟨g1, o1, none⟩ = some (.bool s1) /\ W'.cell? ⟨g1, o1 + 1, none⟩ = some (.slice a1 n1 c1) /\ W'.cell? ⟨g1, o1 + 2, none⟩ = some (.slice d1 k1 e1) /\ W'.cell? ⟨g2, o2, none⟩ = some (.bool s2) /\ W'.cell? ⟨g2, o2 + 1, none⟩ = some (.slice a2 n2 c2) /\ W'.cell? ⟨g2, o2 + 2, none⟩ = some (.slice d2 k2 e2)) := hid fun Y W' h hg hb => by
        have p1 := hc1.out Y W' ((ExtX.of hEd).trans h) hg
        have p2 := hc2.out Y W' ((ExtX.of hEd).trans h) hb
        exact ⟨p1.1, p1.2.1, p1.2.2, p2.1, p2.2.1, p2.2.2⟩
      obtain ⟨k00, k01, k02, k10, k11, k12⟩ := hS.out noY wr.drew (ExtX.refl _) rfl rfl
      have hxd : QV (mk (un X oo) wr.drew) (.agg #[.bool s1, .slice a1 n1 c1, .slice d1 k1 e1]) l[i] := hq1
      have hvd : QV (mk (un X oo) wr.drew) (.agg #[.bool s2, .slice a2 n2 c2, .slice d2 k2 e2]) m[i] := hq2
      have hXd : HX (un X oo) wr.drew := hXu
      have hyi := hLi.out i hlt hltm hltL
      rw [hyi] at htk
      clear hc1 hg1 hq1 hc2 hg2 hq2
      go_wp2_with fail
      go_region_held3 (fun w' => w'.cell? ⟨g1, o1, none⟩ = some (.bool s1) /\ w'.cell? ⟨g1, o1 + 1, none⟩ = some (.slice a1 n1 c1) /\ w'.cell? ⟨g1, o1 + 2, none⟩ = some (.slice d1 k1 e1) /\ w'.cell? ⟨g2, o2, none⟩ = some (.bool s2) /\ w'.cell? ⟨g2, o2 + 1, none⟩ = some (.slice a2 n2 c2) /\ w'.cell? ⟨g2, o2 + 2, none⟩ = some (.slice d2 k2 e2))
        (first | exact hS.out noY _ t1 rfl rfl | exact hS.out noY _ (ExtX.alloc t1 _) rfl rfl | exact hS.out (ob oo) _ ((ExtX.of t1).trans hE7) hob1 hobb | go_keep)
        (first | (go_at_call 109; (with_reducible refine (qsub (un X oo) wr.drew _ _ _ _ hXd hxd hvd).mono ?_); rintro ee w6 ⟨t1, u6, rfl, hu6⟩; obtain ⟨s6, a6, n6, c6, d6, k6, e6, rfl⟩ := hu6.shape; have hO6 := hO.ext0 QC.elem (hEd.trans t1); have hb6 := (hEd.trans t1).size; have hX6 := hXr.ext (hEd.trans t1)) | (refine step_append1 (l := L.take i) rfl (by rfl) slRat rfl QC.elem (by omega) hX6 i hln.out rfl rfl hO6 (.agg #[.bool s6, .slice a6 n6 c6, .slice d6 k6 e6]) (l[i] - m[i]) rfl hu6 (by omega) (by omega) ?_; intro oo2 co2 w7 hO7 hE7 hor))
      have hE8 := (hE.trans (hEd.trans t1)).own hO6 (Nat.le_refl _) hE7
      rw [htk.out] at hO7
      clear k00 k01 k02 k10 k11 k12
      go_wp2_with fail
      go_roundw
      case rel => exact ⟨i + 1, oo2, co2, by go_num, by go_num, by omega, hO7, hE8⟩
      case measure => simp [intOf]; omega
    · have hil : i = l.length := by omega
      subst hil
      rw [List.take_of_length_le (by omega)] at hO
      have hc := hO.lenCap
      have hs := hO.sl QC.elem
      go_wp2_with fail
      go_ret
      exact ⟨hE, _, rfl, oo, co, by rw [hLl'.out]; rfl, hc, hs⟩
end Go.Proofs.YthipmbmjodhiiaaGreat
namespace Go.Proofs.YthipmbmjodhiiaaGreat
open Go.RowKit Go.Rep Go.Lim Go.Lin
set_option maxRecDepth 100000 in
theorem hcentred (X : Nat -> Bool) (w : World) (u v : Value) (p : List (List Rat)) (x : List Rat) (c : Nat) (hX : HX X w) (hu : MV (mk X w) u p) (hv : RV (mk X w) v x) (hsh : ∀ r ∈ p, r.length = c) (hx : x.length = c) (hc : c <= 1000) (hp : p.length <= 1000) : Calls Tryz.prog 59 #[u, v] w (ROut X w MC (fromM c p x)) := by
  obtain ⟨M, hM⟩ : ∃ M, fromM c p x = M := ⟨_, rfl⟩
  obtain ⟨n, hn⟩ : ∃ n, p.length = n := ⟨_, rfl⟩
  have hMl : Hid (M.length = n) := hid (by rw [<- hM, <- hn]; simp [fromM])
  have hMr : Hid (∀ j (hj : j < p.length) (h : j < M.length), M[j] = List.zipWith (· - ·) p[j] x) := hid fun j hj h => by subst hM; exact from_get hsh hx j hj h
  have hMl2 : M.length <= n := by rw [hMl.out]; exact Nat.le_refl _
  have hMl3 : n <= M.length := by rw [hMl.out]; exact Nat.le_refl _
  obtain ⟨ua, uca, rfl, huca, hua⟩ := hu
  have hhu := hua.hd
  obtain ⟨va, vca, rfl, hvca, hva⟩ := hv
  have hn' := hid hn
  have hsh' := hid hsh
  have hx' := hid hx
  rw [hM]
  rw [hn] at hp huca hhu |-
  clear hM hn hsh hx
  go_enter Tryz.func59, Tryz.ntmps59
  go_wp2_with fail
  go_loopw [5, 10] (fun o cc wr => ∃ (i : Nat) (oo : Option Addr) (co : Nat), cc = .int .i64 i /\ o = .slice oo i co /\ i <= n /\ OL RC 1 X w.heap.size 27 wr oo co (M.take i) /\ Ext w wr) (fun _ cc _ => n - (intOf cc).toNat)
  case atStart => exact ⟨0, none, 0, rfl, rfl, Nat.zero_le _, OL.nil _ _ _ _ _ _, ExtX.refl _⟩
  case round =>
    obtain ⟨i, oo, co, rfl, rfl, hi, hO, hE⟩ := hrel
    have hXr : HX X wr := hX.ext hE
    have hXu : HX (un X oo) wr := hO.unX hXr
    have hbase := hE.size
    by_cases hlt : i < n
    · have him : i < p.length := by rw [hn'.out]; exact hlt
      have hltM : i < M.length := by omega
      have htk := hid (take_snoc M i hltM)
      have hln := hid (len_take (l := M) (i := i) (by omega))
      have hRd := hMr.out i him hltM
      have hsr : Sl RV 1 (mk (un X oo) wr) ua p := hua.old RV.mono hE (fun j hj => hO.ob_lt hj)
      have hvr : RV (mk (un X oo) wr) (.slice va x.length vca) x := old_un RV.mono ⟨va, vca, rfl, hvca, hva⟩ hE (fun j hj => hO.ob_lt hj)
      obtain ⟨a1, c1, hX1, hc1, hcl1, hq1⟩ := hsr.row i him
      have k00 := hc1.out noY wr (ExtX.refl _) rfl
      have hrl := hid (hsh'.out p[i] (List.getElem_mem _))
      have hmi := eminus (un X oo) wr _ _ p[i] x hXu ⟨a1, c1, rfl, hcl1, hq1⟩ hvr (by rw [hrl.out]; omega) (by rw [hrl.out, hx'.out])
      rw [<- hRd] at hmi
      obtain ⟨R, hR⟩ : ∃ R, M[i] = R := ⟨_, rfl⟩
      rw [hR] at hmi htk
      clear hR hRd hc1
      go_wp2_with (with_reducible refine up_ix1 slRats (by omega) (by assumption) ?_)
      refine hmi.mono ?_
      rintro e w6 ⟨hE6, u6, rfl, ro, cr, rfl, hcr, hsR⟩
      have hRC : RC (mk (un X oo) w6) (.slice ro R.length cr) R := ⟨ro, cr, rfl, hcr, hsR⟩
      obtain ⟨k, hk⟩ : ∃ k, R.length = k := ⟨_, rfl⟩
      rw [hk] at hRC |-
      have hO6 := hO.ext0 RC.elem hE6
      have hb6 := hE6.size
      clear k00
      go_wp2_with (at_builtin; refine st_append1n (l := M.take i) slRats rfl RC.elem (by omega) (hXr.ext hE6) i hln.out rfl rfl hO6 (.slice ro k cr) R rfl hRC (by omega) (by omega) ?_; intro oo2 co2 w7 hO7 hE7 hor)
      have hE8 := (hE.trans hE6).own hO6 (Nat.le_refl _) hE7
      rw [htk.out] at hO7
      go_roundw
      case rel => exact ⟨i + 1, oo2, co2, by go_num, by go_num, by omega, hO7, hE8⟩
      case measure => simp [intOf]; omega
    · have hil : i = n := by omega
      subst hil
      rw [List.take_of_length_le (by omega)] at hO
      have hc := hO.lenCap
      have hs := hO.sl RC.elem
      go_wp2_with fail
      go_ret
      exact ⟨hE, _, rfl, oo, co, by rw [hMl.out]; rfl, hc, hs⟩
end Go.Proofs.YthipmbmjodhiiaaGreat
namespace Go.Proofs.YthipmbmjodhiiaaGreat
open Go.RowKit Go.Rep Go.Lim Go.Lin
set_option maxRecDepth 100000 in
set_option maxHeartbeats 1600000 in
theorem edot_any (X : Nat -> Bool) (w : World) (u v : Value) (l m : List Rat) (hX : HX X w) (hu : RV (mk X w) u l) (hv : RV (mk X w) v m) (hn : l.length <= 1000000) (hml : m.length = l.length) (hb1 : ∀ k, k <= l.length -> hq (dotN l m k) <= 68719476736) (hb2 : ∀ k, k < l.length -> hq (l.getD k 0 * m.getD k 0) <= 68719476736) :
    Calls Tryz.prog 71 #[u, v] w (ROut X w QC (dotL l m)) := by
  obtain ⟨ao, ca, rfl, hca, hsa⟩ := hu
  obtain ⟨bo, cb, rfl, hcb, hsb⟩ := hv
  have hha := hsa.hd
  have hhb := hsb.hd
  obtain ⟨W, hW, hE, b0, b1, hz⟩ := boxes2 w #[.bool false, .slice none 0 0, .slice none 0 0] #[.bool false, .slice none 0 0, .slice none 0 0] 34 34
  have hXW : HX (hidB X w.heap.size 2) W := hX.boxes hz
  have h0 : QC (mk (hidB X w.heap.size 2) W) (.agg #[.bool false, .slice none 0 0, .slice none 0 0]) (dotN l m 0) := QC.zero _
  obtain ⟨n, hln⟩ : ∃ n, l.length = n := ⟨_, rfl⟩
  rw [hln] at hn hml hb1 hb2 hca hha |-
  rw [hml] at hcb hhb |-
  have hln' := hid hln
  have hml' := hid hml
  have hb1' := hid hb1
  have hb2' := hid hb2
  have hdot : Hid (dotN l m n = dotL l m) := hid (by unfold dotL; rw [hln])
  clear hln hml hb1 hb2
  go_enter Tryz.func71, Tryz.ntmps71
  go_wp2_with fail
  obtain ⟨b, hb⟩ : ∃ b, w.heap.size = b := ⟨_, rfl⟩
  have hle : Hid (∀ wr, Ext w wr -> Le (mk X w) (mk (hidB X b 2) wr)) := hid fun wr h => by rw [<- hb]; exact le_boxes h
  have hbw : w.heap.size <= b := by omega
  rw [hb] at b0 b1 hXW h0 |-
  clear hW
  go_loopw [9] (fun k wr => ∃ (i : Nat) (s : Bool) (a : Option Addr) (n' c' : Nat) (d : Option Addr) (kk e : Nat), k = .int .i64 i /\ i <= n /\ Bx wr b #[.bool false, .slice none 0 0, .slice none 0 0] 34 /\ Bx wr (b + 1) #[.bool s, .slice a n' c', .slice d kk e] 34 /\ QC (mk (hidB X b 2) wr) (.agg #[.bool s, .slice a n' c', .slice d kk e]) (dotN l m i) /\ HX (hidB X b 2) wr /\ Ext w wr) (fun k _ => n - (intOf k).toNat)
  case atStart => exact ⟨0, _, _, _, _, _, _, _, rfl, Nat.zero_le _, b0, b1, h0, hXW, hE⟩
  case round =>
    obtain ⟨i, s, a, n', c', d, kk, e, rfl, hi, b0, b1, hq, hXr, hEr⟩ := hrel
    by_cases hlt : i < n
    · have hil : i < l.length := by rw [hln'.out]; exact hlt
      have him : i < m.length := by rw [hml'.out]; exact hlt
      have hsr := hsa.mono QV.mono (hle.out wr hEr)
      have hsr2 := hsb.mono QV.mono (hle.out wr hEr)
      obtain ⟨g1, o1, s1, p1, n1, q1, d1, k1, e1, hg1, hX1, hc1, hq1⟩ := hsr.rat QV.shaped i hil
      obtain ⟨g2, o2, s2, p2, n2, q2, d2, k2, e2, hg2, hX2, hc2, hq2⟩ := hsr2.rat QV.shaped i him
      have gl : Hid (l.getD i 0 = l[i]) := hid (by simp [List.getD_eq_getElem?_getD, hil])
      have gm : Hid (m.getD i 0 = m[i]) := hid (by simp [List.getD_eq_getElem?_getD, him])
      have hst : Hid (dotN l m i + l[i] * m[i] = dotN l m (i + 1)) := hid (by rw [<- gl.out, <- gm.out]; rfl)
      have hbo := hid (hb1'.out i hi)
      have hbp := hid (hb2'.out i hlt)
      rw [gl.out, gm.out] at hbp
      obtain ⟨x, hx⟩ : ∃ x, l[i] = x := ⟨_, rfl⟩
      obtain ⟨y, hy⟩ : ∃ y, m[i] = y := ⟨_, rfl⟩
      rw [hx, hy] at hst hbp
      rw [hx] at hq1
      rw [hy] at hq2
      have i1 : ∀ W, (Instr.indexAt 27 (.slice ao n ca) (.int .i64 (i : Int))).run Tryz.prog W = .ok (.pointer (some ⟨g1, o1, none⟩)) W := by rw [<- hg1]; exact run_indexAt_adr slRat ao n ca .i64 i hha (by omega)
      have i2 : ∀ W, (Instr.indexAt 27 (.slice bo n cb) (.int .i64 (i : Int))).run Tryz.prog W = .ok (.pointer (some ⟨g2, o2, none⟩)) W := by rw [<- hg2]; exact run_indexAt_adr slRat bo n cb .i64 i hhb (by omega)
      obtain ⟨D, hD⟩ : ∃ D, dotN l m i = D := ⟨_, rfl⟩
      obtain ⟨D2, hD2⟩ : ∃ D2, dotN l m (i + 1) = D2 := ⟨_, rfl⟩
      rw [hD] at hq hst hbo
      rw [hD2] at hst
      have hD2' := hid hD2
      clear hx hy hg1 hg2 hD hD2
      have hE5d : Ext wr wr.drew := (ExtX.refl wr).drew
      have b05 := b0.ext0 hE5d
      have b15 := b1.ext0 hE5d
      have k00 := b15.cell 0 rfl
      have k01 := b15.cell 1 rfl
      have k02 := b15.cell 2 rfl
      obtain ⟨k10, k11, k12⟩ := hc1.out noY wr.drew hE5d rfl
      obtain ⟨k20, k21, k22⟩ := hc2.out noY wr.drew hE5d rfl
      have hXd := hXr.ext hE5d
      have hx5 : QV (mk (hidB X b 2) wr.drew) (.agg #[.bool s1, .slice p1 n1 q1, .slice d1 k1 e1]) x := mkx QV.mono hq1 hE5d
      have hy5 : QV (mk (hidB X b 2) wr.drew) (.agg #[.bool s2, .slice p2 n2 q2, .slice d2 k2 e2]) y := mkx QV.mono hq2 hE5d
      have hq5 : QV (mk (hidB X b 2) wr.drew) (.agg #[.bool s, .slice a n' c', .slice d kk e]) D := (mkx QC.mono hq hE5d).qv hbo.out
      clear hc1 hc2
      go_wp2_with fail
      go_region_with (first | (go_at_call 93; (with_reducible refine (qmul (hidB X b 2) wr.drew _ _ _ _ hXd hx5 hy5).mono ?_); rintro ee w6 ⟨t1, u6, rfl, hu6⟩; obtain ⟨s6, a6, n6, c6, d6, k6, e6, rfl⟩ := hu6.shape; have hX6 := hXd.ext t1; have hq6 := mkx QV.mono hq5 t1; have hm6 := hu6.qv hbp.out; have b16 := b15.ext0 t1; have m0 := b16.cell 0 rfl; have m1 := b16.cell 1 rfl; have m2 := b16.cell 2 rfl) | (go_at_call 107; (with_reducible refine (qadd (hidB X b 2) w6 _ _ _ _ hX6 hq6 hm6).mono ?_); rintro ee w7 ⟨t7, u7, rfl, hu7⟩; obtain ⟨s7, a7, n7, c7, d7, k7, e7, rfl⟩ := hu7.shape; rw [hst.out] at hu7; have b17 := b16.ext0 t7; have g0 := b17.cell 0 rfl; have g1' := b17.cell 1 rfl; have g2' := b17.cell 2 rfl; have f0 := b17.frozen 0; have f1 := b17.frozen 1; have f2 := b17.frozen 2))
      all_goals
        obtain ⟨z1, z2⟩ := b17.set3 (.bool s7) (.slice a7 n7 c7) (.slice d7 k7 e7)
        have h8 := QC.mono _ _ _ _ (le_store (lo := b) (nb := 2) z2 (by omega) (by omega)) hu7
        have b08 := ((b05.ext0 t1).ext0 t7).ext z2 (ob_other (by omega))
        have hE8 : Ext w _ := ExtX.box (hEr.trans (hE5d.trans (t1.trans t7))) z2 (by omega)
        have hX8 := (hX6.ext t7).ext z2
        rw [<- hD2'.out] at h8
        clear k00 k01 k02 k10 k11 k12 k20 k21 k22 m0 m1 m2 g0 g1' g2' f0 f1 f2 i1 i2
        go_wp2_with fail
        go_roundw
        case rel => exact ⟨i + 1, _, _, _, _, _, _, _, by go_num, by omega, b08, z1, h8, hX8, hE8⟩
        case measure => simp [intOf]; omega
    · have hin : i = n := by omega
      subst hin
      rw [hdot.out] at hq
      have k00 := b1.cell 0 rfl
      have k01 := b1.cell 1 rfl
      have k02 := b1.cell 2 rfl
      go_wp2_with ((with_reducible show wpList _ _ _ (⟨_, .store _ _ _, _, _, _, _⟩ :: _) _ _); refine st_storeBox stRat rfl rfl b0 rfl rfl (one3 _ _ _ _ _ _ _) ?_; intro w7 r1 r2)
      have h7 := QC.mono _ _ _ _ le_unbox (QC.mono _ _ _ _ (le_store r2 (by omega) (by omega)) hq)
      exact bodyPost_ret (results_box rfl rfl stRat r1 rfl) rfl ⟨ExtX.box hEr r2 (by omega), _, rfl, h7⟩
end Go.Proofs.YthipmbmjodhiiaaGreat
namespace Go.Proofs.YthipmbmjodhiiaaGreat
open Go.RowKit Go.Rep Go.Lim Go.Lin
def NEOut (w : World) (n : Nat) (c : Int) (e : Ending) (w' : World) : Prop := Ext w w' /\ e = .returned (.tuple #[.int .i64 (n : Int), .int .i64 c])
theorem cntOk_no1 {p : Mat} {y : List Rat} {us : Mat} (h : (ptsB p && decide (y.length = colsL p)) = false) : cntOk p y us = false := by
  unfold cntOk; rw [<- Bool.and_assoc, h]; rfl
theorem cntOk_no2 {p : Mat} {y : List Rat} {us : Mat} (i : Nat) (hi : i < us.length) (h : us[i].length ≠ y.length) : cntOk p y us = false := by
  unfold cntOk
  rw [show decide (∀ i (h : i < us.length), us[i].length = y.length) = false from decide_eq_false fun hh => h (hh i hi)]
  simp
theorem cntOk_yes {p : Mat} {y : List Rat} {us : Mat} (h : (ptsB p && decide (y.length = colsL p)) = true) (h2 : ∀ i (hi : i < us.length), us[i].length = y.length) : cntOk p y us = true := by
  unfold cntOk; rw [<- Bool.and_assoc, h, decide_eq_true h2]; rfl
end Go.Proofs.YthipmbmjodhiiaaGreat
namespace Go.Rep
open Go.RowKit
section
variable {P : Program} {ops : Array Oper} {Q : Exit -> Act -> World -> Prop} {rest : List Oper} {a : Act} {w : World}
variable {α : Type} {R : Mem -> Value -> α -> Prop} {sz : Nat} {X : Nat -> Bool} {base : Nat} {e : TypeId} {ao : Option Addr} {cap : Nat} {l : List α}
variable {d : Option Tmp} {ty : TypeId} {ps : String} {af : Array Edge}
theorem OL.field (hR : Elem R sz) (h : OL R sz X base e w ao cap l) (i j : Nat) (hi : i < l.length) (hj : j < sz) (v : Value) (y : α)
    (hu : ∀ u, R (mk (un X ao) w) u l[i] -> ∃ u', cellsL u' = (cellsL u).set j v /\ R (mk (un X ao) w) u' y) :
    (∃ v0, w.cell? (adr ao (i * sz + j)) = some v0) /\ w.frozen? (adr ao (i * sz + j)) = false /\ Sl R sz (mk X (w.setCell (adr ao (i * sz + j)) v)) ao (l.set i y) /\ ExtX (ob ao) w (w.setCell (adr ao (i * sz + j)) v) := by
  obtain ⟨us, h1, h2, h22, h3, h5⟩ := h.cells
  have hsub : (i + 1) * sz <= us.length * sz := Nat.mul_le_mul_right _ (by omega)
  rw [Nat.succ_mul] at hsub
  have hcell : ∀ k (hk : k < us.length) q (hq : q < sz), w.cell? (adr ao (k * sz + q)) = some (us[k].cells[q]'(by rw [h2 _ (List.getElem_mem _)]; exact hq)) /\ w.frozen? (adr ao (k * sz + q)) = false := by
    intro k hk q hq
    have hz : us[k].cells.size = sz := h2 _ (List.getElem_mem _)
    have hg := flat_get us k q hk h2 hq
    have hc : (cellsL us[k])[q]? = some (us[k].cells[q]'(by rw [hz]; exact hq)) := by simp [cellsL, hz, hq]
    rw [hc] at hg
    exact h3 _ _ hg
  have hE : ExtX (ob ao) w (w.setCell (adr ao (i * sz + j)) v) :=
    ⟨rfl, rfl, rfl, by simp [World.setCell], fun k hk hy => Below.heap_setCell _ _ _ _ (fun e => by
      have hf := h.form
      rcases hf with ⟨_, _, rfl⟩ | ⟨g, cur, rfl, _⟩
      · simp at hi
      · subst e; simp [ob] at hy)⟩
  have hX : ∀ q, X (adr ao q).block = false := by
    intro q
    have hf := h.form
    have hx := h.1
    rcases hf with ⟨_, _, rfl⟩ | ⟨g, cur, rfl, _⟩
    · simp at hi
    · exact hx _ (by simp [ob, adr])
  have hi' : i < us.length := by omega
  refine ⟨⟨_, (hcell i hi' j hj).1⟩, (hcell i hi' j hj).2, ⟨by simpa using h.hd, fun k hk => ?_⟩, hE⟩
  have hk' : k < us.length := by simpa [h1] using hk
  have hle : Le (mk (un X ao) w) (mk X (w.setCell (adr ao (i * sz + j)) v)) := mk_over hE (fun k _ hk => un_right hk) fun k _ hk => un_left hk
  by_cases hki : k = i
  · subst hki
    obtain ⟨u', hu1, hu2⟩ := hu us[k] (h5 k hk' (by omega))
    have hsz' := hR.size _ _ _ hu2
    refine ⟨u', hsz', fun q hq => ?_, by simpa using hR.mono _ _ _ _ hle hu2⟩
    have hq' : q < sz := by omega
    have hget : (cellsL u')[q]? = some u'.cells[q] := by simp [cellsL, hq]
    rw [hu1, List.getElem?_set] at hget
    unfold mk
    rw [hX]
    by_cases hqj : j = q
    · subst hqj
      rw [if_pos rfl, if_pos (by simp [cellsL, h2 _ (List.getElem_mem hk'), hj])] at hget
      have : u'.cells[j] = v := by simpa using hget.symm
      rw [this]
      exact World.cell?_setCell_same' w _ v (by rw [(hcell k hk' j hj).1]; rfl)
    · rw [if_neg hqj] at hget
      have hc := (hcell k hk' q hq').1
      have : us[k].cells[q]'(by rw [h2 _ (List.getElem_mem _)]; exact hq') = u'.cells[q] := by
        simpa [cellsL] using (List.getElem?_eq_some_iff.1 hget).2
      rw [this] at hc
      rw [<- hc]
      exact World.cell?_setCell_other w _ _ v (by simp [adr])
  · have hz : us[k].cells.size = sz := h2 _ (List.getElem_mem _)
    refine ⟨us[k], hz, fun q hq => ?_, by simpa [List.getElem_set, Ne.symm hki] using hR.mono _ _ _ _ hle (h5 k hk' (by simpa using hk))⟩
    have hc := (hcell k hk' q (by omega)).1
    unfold mk
    rw [hX, <- hc]
    refine World.cell?_setCell_other w _ _ v ?_
    have hne : k * sz + q ≠ i * sz + j := by
      intro he
      rcases Nat.lt_or_gt_of_ne hki with hlt | hlt
      · have := Nat.mul_le_mul_right sz (show k + 1 <= i by omega)
        rw [Nat.succ_mul] at this; omega
      · have := Nat.mul_le_mul_right sz (show i + 1 <= k by omega)
        rw [Nat.succ_mul] at this; omega
    simp [adr]
theorem st_cell {t : TypeId} {x y : Operand} {A : Addr} {v v0 : Value} (hT : TyI P t 1) (hx : a.eval x = .pointer (some A)) (hy : a.eval y = v) (hv : v.cells = #[v]) (hone : v.oneCell' = true) (hc : w.cell? A = some v0) (hf : w.frozen? A = false)
    (K : wpList P ops Q rest (a.put d undef) (w.setCell A v)) :
    wpList P ops Q (⟨d, .store t x y, ty, ps, af, none⟩ :: rest) a w := by
  refine wpList_plain rfl fun K' hK' => ?_
  obtain ⟨ti, ht, hts⟩ := hT
  unfold Oper.wp
  subst hy
  have hr := run_store P w A (a.eval y) .plain hone
  rw [hc, hf] at hr
  simp only [Bool.false_eq_true, if_false] at hr
  simp [execOp, hx, Instr.storeAt, Instr.sureAddr, storeVar, sizeOf, typeInfo, ht, hts, hv, Result.andThen, storeCells, Addr.add_zero', hr]
  exact hK' _ _ K
end
end Go.Rep
namespace Go.Rep
open Go.RowKit
section
variable {P : Program} {ops : Array Oper} {Q : Exit -> Act -> World -> Prop} {rest : List Oper} {a : Act} {w : World}
variable {α : Type} {R : Mem -> Value -> α -> Prop} {sz : Nat} {X : Nat -> Bool} {e : TypeId}
variable {d : Option Tmp} {ty : TypeId} {ps : String} {af : Array Edge}
theorem st_copy {t by_ : Nat} {z : Value} {s x : Operand} {asl : Option Addr} {cs m : Nat} (T : SliceT P t e sz by_ z) (hzs : z.cells.size = sz) (hR : Elem R sz) (hX : ∀ k, X k = true -> k < w.heap.size)
    (xs : List α) (hs : a.eval s = .slice none 0 0) (hx : a.eval x = .slice asl m cs) (hm : m = xs.length)
    (hxs : Sl R sz (mk X w) asl xs) (hroom : m * by_ <= 140737488355328) (hmax : m <= 9223372036854775807)
    (K : ∀ ao' cap' w', OL R sz X w.heap.size e w' ao' cap' xs -> Ext w w' -> wpList P ops Q rest (a.put d (.slice ao' m cap')) w') :
    wpList P ops Q (⟨d, .call { callee := .builtin .append, args := #[s, x], argTypes := #[t, t] }, ty, ps, af, none⟩ :: rest) a w := by
  subst hm
  have h0 : OL R sz X w.heap.size e w none 0 [] := OL.nil _ _ _ _ _ _
  have hun : un X none = X := by funext k; simp [un, ob]
  refine st_appendl (l := []) T hzs hR (Nat.le_refl _) hX xs hs hx h0 (by rw [hun]; exact hxs) (by simpa using hroom) (by simpa using hmax) ?_
  intro ao' cap' w' h1 h2 h3
  have hE : Ext w w' := h2.weaken fun k _ _ => by simp [ob]
  exact K ao' cap' w' h1 hE
theorem OL.rehide {base cap : Nat} {ao : Option Addr} {l : List α} (hR : Elem R sz) (hR0 : ∀ h h' u x, R h u x -> R h' u x) (h : OL R sz X base e w ao cap l) {Z : Nat -> Bool} (hz : ∀ k, ob ao k = true -> Z k = false) : Sl R sz (mk Z w) ao l := by
  have hf := h.form
  have hs := h.sl hR
  rcases hf with ⟨rfl, _, rfl⟩ | ⟨g, cur, rfl, _⟩
  · exact Sl.nil _ _ _ _
  · refine ⟨hs.1, fun i hi => ?_⟩
    obtain ⟨u, h1, h2, h3⟩ := hs.2 i hi
    refine ⟨u, h1, fun j hj => ?_, hR0 _ _ _ _ h3⟩
    have := mk_cell (h2 j hj)
    unfold mk
    rw [hz _ (by simp [ob, adr])]
    simpa using this
theorem OL.beside {base cap : Nat} {ao oo oo' : Option Addr} {l : List α} {w' : World} (hR : Elem R sz) (h : OL R sz (un X oo) base e w ao cap l) (hE : ExtX (ob oo) w w') (ho : oo' = oo \/ ∃ g, oo' = some ⟨g, 0, none⟩ /\ w.heap.size <= g) : OL R sz (un X oo') base e w' ao cap l :=
  h.ext hR hE (fun k _ hk => un_right hk) fun k hk hz => by
    rcases ho with rfl | ⟨g, rfl, hg⟩
    · exact hz
    · by_cases hx : X k = true
      · exact un_left hx
      · have : g = k := by simpa [un, hx, ob] using hz
        omega
end
end Go.Rep
namespace Go.Rep
open Go.RowKit
section
variable {P : Program} {ops : Array Oper} {Q : Exit -> Act -> World -> Prop} {rest : List Oper} {a : Act} {w : World}
variable {α : Type} {R : Mem -> Value -> α -> Prop} {sz : Nat} {X : Nat -> Bool} {base : Nat} {e : TypeId} {ao : Option Addr} {cap : Nat} {l : List α}
variable {d : Option Tmp} {ty : TypeId} {ps : String} {af : Array Edge}
theorem OL.take (h : OL R sz X base e w ao cap l) (_hsz : ∀ m u x, R m u x -> u.cells.size = sz) (n : Nat) : OL R sz X base e w ao cap (l.take n) := by
  have hf := h.form
  obtain ⟨hx, us, h1, h2, h22, ⟨h3, h4⟩, h5⟩ := h
  have hus : ∀ u ∈ us.take n, u.cells.size = sz := fun u hu => h2 u (List.mem_of_mem_take hu)
  refine ⟨hx, us.take n, by simp [h1], hus, fun u hu => h22 u (List.mem_of_mem_take hu), ⟨by rw [flat_length _ hus]; simp [h1], ?_⟩, fun i hi hi' => ?_⟩
  · rcases h4 with ⟨hv, hn⟩ | ⟨g, c, cur, hv, q1, q2, q3, q4, q5, q6⟩
    · simp at hv
      obtain ⟨rfl, h0, rfl⟩ := hv
      refine .inl ⟨by simp [h0], by simp [h0]⟩
    · simp at hv
      obtain ⟨rfl, rfl⟩ := hv
      refine .inr ⟨g, cap, cur, by simp, q1, q2, by simp; omega, q4, q5, ?_⟩
      have e1 : (us.take n).flatMap cellsL = (us.flatMap cellsL).take ((l.take n).length * sz) := by
        have e2 : us.flatMap cellsL = (us.take n).flatMap cellsL ++ (us.drop n).flatMap cellsL := by
          rw [<- List.flatMap_append, List.take_append_drop]
        rw [e2]
        have e3 : (l.take n).length * sz = ((us.take n).flatMap cellsL).length := by rw [flat_length _ hus]; simp [h1]
        rw [e3, List.take_left]
      rw [e1, <- q6, List.take_take]
      congr 1
      have : (l.take n).length <= l.length := by simp; omega
      exact (Nat.min_eq_left (Nat.mul_le_mul_right _ this)).symm
  · simp only [List.getElem_take]
    exact h5 i (by simp at hi; omega) (by simp at hi'; omega)
theorem st_append_room {t by_ : Nat} {z : Value} {arr : Array Value} {s x : Operand} {g n : Nat} (T : SliceT P t e sz by_ z) (hR : Elem R sz)
    (hs : a.eval s = .slice (some ⟨g, 0, none⟩) n cap) (hn : l.length = n) (hx : a.eval x = .slice (some ⟨w.heap.size, 0, none⟩) 1 1) (h : OL R sz X base e w (some ⟨g, 0, none⟩) cap l)
    (u : Value) (y : α) (harr : arr = u.cells) (hu : R (mk (un X (some ⟨g, 0, none⟩)) w) u y) (hroom : n + 1 <= cap)
    (K : ∀ w', OL R sz X base e w' (some ⟨g, 0, none⟩) cap (l ++ [y]) -> ExtX (ob (some ⟨g, 0, none⟩)) w w' -> wpList P ops Q rest (a.put d (.slice (some ⟨g, 0, none⟩) (n + 1) cap)) w') :
    wpList P ops Q (⟨d, .call { callee := .builtin .append, args := #[s, x], argTypes := #[t, t] }, ty, ps, af, none⟩ :: rest) a (w.alloc (.cells arr e)) := by
  subst hn
  refine wpList_plain rfl fun K' hK' => ?_
  have hE : Ext w (w.alloc (.cells arr e)) := (ExtX.refl w).alloc _
  have h' := h.ext0 hR hE
  obtain ⟨i, hi, hz, hsz, hby⟩ := info_parts T.info
  have hat := at_new w arr e u harr
  have husz := hR.size _ _ _ hu
  have hu1 := hR.one _ _ _ hu
  have hu2 : R (mk (un X (some ⟨g, 0, none⟩)) (w.alloc (.cells arr e))) u y := hR.mono _ _ _ _ (mk_ext hE) hu
  have hnl : (cellsL u).length = 1 * i.size := by simp [cellsL, husz, hsz]
  have hnews : ∀ j v, (cellsL u)[j]? = some v -> (w.alloc (.cells arr e)).cell? ((⟨w.heap.size, 0, none⟩ : Addr).add j) = some v := by
    intro j v hj
    rw [<- adr_addr rfl]; exact hat.2 j v (by simpa using hj)
  have hform := h'.form
  generalize hW : w.alloc (.cells arr e) = W at hE h' hu2 hnews hform
  obtain ⟨hx', us, h1, h2, h22, h3, h5⟩ := h'
  rcases hform with ⟨hv, _⟩ | ⟨g', cur, hv, h6, h7, h8, h9, h10⟩
  · simp at hv
  simp at hv
  subst hv
  have hul : (us.flatMap cellsL).length = l.length * i.size := by rw [flat_length us h2, h1, hsz]
  have hfl : (us ++ [u]).flatMap cellsL = us.flatMap cellsL ++ cellsL u := by simp
  have hnew : ∀ v ∈ us ++ [u], v.cells.size = sz := by
    intro v hv
    rcases List.mem_append.1 hv with hv | hv
    · exact h2 v hv
    · rw [List.mem_singleton.1 hv]; exact husz
  have hnew1 : ∀ v ∈ us ++ [u], ∀ c ∈ cellsL v, c.oneCell' = true := by
    intro v hv c hc
    rcases List.mem_append.1 hv with hv | hv
    · exact h22 v hv c hc
    · rw [List.mem_singleton.1 hv] at hc; exact hu1 c hc
  have hfit : l.length * i.size + (cellsL u).length <= cur.size := by rw [hnl, h10, <- hsz, <- Nat.add_mul]; exact Nat.mul_le_mul_right _ hroom
  have hr := run_append_room (P := P) W t ty e i T.und hi g l.length cap cur h7 ⟨w.heap.size, 0, none⟩ 1 1 (cellsL u) hnl hnews hu1 hroom hfit
  have hE2 : ExtX (ob (some ⟨g, 0, none⟩)) W (W.setRow g (cur.toList.take (l.length * i.size) ++ cellsL u ++ cur.toList.drop (l.length * i.size + (cellsL u).length)).toArray) :=
    ⟨rfl, rfl, rfl, by simp, fun k _ hk => setRow_other W g k _ (fun ek => by subst ek; simp [ob] at hk)⟩
  have hll : (l ++ [y]).length = l.length + 1 := by simp
  have hOL : OL R sz X base e (W.setRow g (cur.toList.take (l.length * i.size) ++ cellsL u ++ cur.toList.drop (l.length * i.size + (cellsL u).length)).toArray) (some ⟨g, 0, none⟩) cap (l ++ [y]) := by
    refine ⟨hx', us ++ [u], by simp [h1], hnew, hnew1, ⟨by rw [hfl]; simp [hul, hnl, hsz, Nat.add_mul], .inr ⟨g, cap, _, by rw [hll], h6, setRow_heap W g cur _ e _ h7, by rw [hll]; exact hroom, h9, ?_, ?_⟩⟩, ?_⟩
    · simp only [List.size_toArray, List.length_append, List.length_take, List.length_drop, Array.length_toList]; omega
    · rw [hfl, hll]
      rcases h3.2 with ⟨hv, _⟩ | ⟨g', c', cur', hv, _, h7', _, _, _, h11⟩
      · simp at hv
      simp at hv
      obtain ⟨rfl, rfl⟩ := hv
      rw [h7] at h7'
      obtain rfl : cur = cur' := by simpa using h7'
      have e1 : cur.toList.take (l.length * i.size) = us.flatMap cellsL := by rw [hsz]; exact h11
      rw [e1]
      have hll2 : (l.length + 1) * sz = (us.flatMap cellsL ++ cellsL u).length := by simp only [List.length_append, hul, hnl, hsz, Nat.add_mul]
      rw [hll2]
      exact List.take_left
    · intro k hk hk'
      have hle : Le (mk (un X (some ⟨g, 0, none⟩)) W) (mk (un X (some ⟨g, 0, none⟩)) _) := mkun_over hE2 (.inl rfl)
      by_cases hlt : k < us.length
      · simpa [List.getElem_append_left hlt, List.getElem_append_left (show k < l.length by omega)] using hR.mono _ _ _ _ hle (h5 k hlt (by omega))
      · have hke : k = us.length := by simp at hk; omega
        subst hke
        have := hR.mono _ _ _ _ hle hu2
        simpa [List.getElem_append_right, h1] using this
  unfold Oper.wp execOp
  simp only [resolve, invoke, builtin, Sem.run_bind, Sem.run_pure, Result.andThen_ok, List.map_toArray, List.map_cons, List.map_nil, hs, hx]
  rw [hr]
  exact hK' _ _ (K _ hOL ((ExtX.of hE).trans hE2))
theorem st_make0 {t by_ : Nat} {z : Value} {x y : Operand} {kl kc : IntKind} {m m0 : Int} (T : SliceT P t e sz by_ z) (_hzs : z.cells.size = sz) (X : Nat -> Bool) (hX : ∀ k, X k = true -> k < w.heap.size) (base : Nat) (hbase : base <= w.heap.size)
    (n : Nat) (hl : a.eval x = .int kl m0) (hm0 : m0 = 0) (hc : a.eval y = .int kc m) (hm : m = (n : Int)) (hroom : by_ * n <= 281474976710656) (hmax : n <= 9223372036854775807)
    (K : ∀ w', OL R sz X base e w' (some ⟨w.heap.size, 0, none⟩) n [] -> Ext w w' -> w'.heap.size = w.heap.size + 1 -> wpList P ops Q rest (a.put d (.slice (some ⟨w.heap.size, 0, none⟩) 0 n)) w') :
    wpList P ops Q (⟨d, .makeSlice t x y, ty, ps, af, none⟩ :: rest) a w := by
  refine wpList_plain rfl fun K' hK' => ?_
  subst hm; subst hm0
  obtain ⟨i, hi, hiz, hsz, hby⟩ := info_parts T.info
  have hr := Go.run_make (P := P) w t e i z T.und hi hiz kl kc 0 n (by omega) (by omega) (by rw [hby, <- Int.natCast_mul]; omega) (by omega)
  simp only [Int.toNat_natCast, Int.toNat_zero] at hr
  unfold Oper.wp
  simp [execOp, hl, hc, hr, Result.andThen]
  refine hK' _ _ (K _ ⟨fun k hk => ?_, [], rfl, by simp, by simp, ⟨by simp, .inr ⟨w.heap.size, n, _, by simp, hbase, heap_alloc_new w _, by simp, by simpa [maxLen] using hmax, by rw [size_madeCells, hsz], by simp⟩⟩, fun i hi => by simp at hi⟩ ((ExtX.refl w).alloc _) (by simp))
  have : w.heap.size = k := by simpa [ob] using hk
  cases hh : X k
  · rfl
  · have := hX k hh; omega
end
end Go.Rep
namespace Go.Rep
open Go.RowKit
theorem OL.hide0 {α : Type} {R : Mem -> Value -> α -> Prop} {sz base cap : Nat} {X Z : Nat -> Bool} {e : TypeId} {w : World} {ao : Option Addr} {l : List α} (h : OL R sz X base e w ao cap l) (hR0 : ∀ h h' u x, R h u x -> R h' u x) (hz : ∀ k, ob ao k = true -> Z k = false) : OL R sz Z base e w ao cap l := by
  obtain ⟨hx, us, h1, h2, h22, h3, h5⟩ := h
  exact ⟨hz, us, h1, h2, h22, h3, fun i hi hi' => hR0 _ _ _ _ (h5 i hi hi')⟩
end Go.Rep
namespace Go.Lim
theorem combs_nil {m h : Nat} {lo : Int} (hm : m < h) : combs m h lo = [] := List.eq_nil_of_length_eq_zero (by rw [combs_length, ch_gt m h hm])
end Go.Lim
namespace Go.Proofs.YthipmbmjodhiiaaGreat
open Go.RowKit Go.Rep Go.Lim
def ownB (base : Nat) : Nat -> Bool := fun k => decide (base <= k) && decide (k < base + 6)
def hbB (W : World) (g : Nat) : Nat -> Bool := fun k => decide (k < W.heap.size) && !(k == g)
structure FromSt (base n k : Nat) (fv : Value) (W : World) (Q : List Int) : Prop where
  bn : W.heap[base]? = some (.cells #[.int .i64 (n : Int)] 3 (0, 0))
  bk : W.heap[base + 1]? = some (.cells #[.int .i64 (k : Int)] 3 (0, 0))
  bf : W.heap[base + 2]? = some (.cells #[fv] 93 (0, 0))
  bl : W.heap[base + 4]? = some (.cells #[.slice (some ⟨base + 3, 0, none⟩) Q.length k] 22 (0, 0))
  br : W.heap[base + 5]? = some (.cells #[.func (.func 108) #[] #[.pointer (some ⟨base + 4, 0, none⟩), .pointer (some ⟨base + 1, 0, none⟩), .pointer (some ⟨base + 2, 0, none⟩), .pointer (some ⟨base, 0, none⟩), .pointer (some ⟨base + 5, 0, none⟩)]] 115 (0, 0))
  ol : OL (IntIn .i64) 1 (hbB W (base + 3)) base 3 W (some ⟨base + 3, 0, none⟩) k Q
  sz : base + 6 <= W.heap.size
def Keep (base : Nat) (W W' : World) : Prop := W.heap.size <= W'.heap.size /\ ∀ k, ownB base k = true -> W'.heap[k]? = W.heap[k]?
theorem ob3 {base k : Nat} (h : ob (some ⟨base, 0, none⟩) k = true) : base = k := by simpa [ob] using h
theorem hide3 {W : World} {base k : Nat} (h : ob (some ⟨base, 0, none⟩) k = true) : hbB W base k = false := by
  have := ob3 h
  subst this
  simp [hbB]
theorem intR0 : ∀ (h h' : Mem) (u : Value) (x : Int), IntIn .i64 h u x -> IntIn .i64 h' u x := fun _ _ _ _ h => h
theorem FromSt.keep {base n k : Nat} {fv : Value} {W W' : World} {Q : List Int} (h : FromSt base n k fv W Q) (hk : Keep base W W') : FromSt base n k fv W' Q := by
  have hb : ∀ d, d < 6 -> W'.heap[base + d]? = W.heap[base + d]? := fun d hd => hk.2 _ (by simp [ownB]; omega)
  refine ⟨by have := hb 0 (by omega); simp only [Nat.add_zero] at this; rw [this]; exact h.bn, by rw [hb 1 (by omega)]; exact h.bk, by rw [hb 2 (by omega)]; exact h.bf, by rw [hb 4 (by omega)]; exact h.bl, by rw [hb 5 (by omega)]; exact h.br, ?_, Nat.le_trans h.sz hk.1⟩
  have h0 := h.ol
  obtain ⟨hx, us, h1, h2, h22, ⟨h3, h4⟩, h5⟩ := h0
  refine ⟨fun k hk => hide3 hk, us, h1, h2, h22, ⟨h3, ?_⟩, fun i hi hi' => intR0 _ _ _ _ (h5 i hi hi')⟩
  rcases h4 with h4 | ⟨g, c, cur, hv, q1, q2, q3⟩
  · exact .inl h4
  · simp at hv
    obtain ⟨rfl, rfl⟩ := hv
    exact .inr ⟨base + 3, k, cur, by simp, q1, by rw [hb 3 (by omega)]; exact q2, q3⟩
theorem FromSt.set {base n k : Nat} {fv : Value} {W W1 : World} {Q Q' : List Int} (h : FromSt base n k fv W Q) (hE : ExtX (ob (some ⟨base + 3, 0, none⟩)) W W1) {X : Nat -> Bool} (hO : OL (IntIn .i64) 1 X base 3 W1 (some ⟨base + 3, 0, none⟩) k Q') (m : Nat) (hm : m = Q'.length) :
    FromSt base n k fv (W1.setCell ⟨base + 4, 0, none⟩ (.slice (some ⟨base + 3, 0, none⟩) m k)) Q' /\ ExtX (ownB base) W (W1.setCell ⟨base + 4, 0, none⟩ (.slice (some ⟨base + 3, 0, none⟩) m k)) /\
      W1.cell? ⟨base + 4, 0, none⟩ = some (.slice (some ⟨base + 3, 0, none⟩) Q.length k) /\ W1.frozen? ⟨base + 4, 0, none⟩ = false := by
  subst hm
  have hsz := h.sz
  have hE2 : ExtX (fun j => j == base + 4) W1 (W1.setCell ⟨base + 4, 0, none⟩ (.slice (some ⟨base + 3, 0, none⟩) Q'.length k)) :=
    ⟨rfl, rfl, rfl, by simp [World.setCell], fun j hj hy => Below.heap_setCell _ _ _ _ (fun e => by subst e; simp at hy)⟩
  have h1 : ∀ j, j < W.heap.size -> j ≠ base + 3 -> W1.heap[j]? = W.heap[j]? := fun j hj hn => hE.block j hj (by
    cases hh : ob (some ⟨base + 3, 0, none⟩) j
    · rfl
    · exact absurd (ob3 hh).symm hn)
  have h2 : ∀ j, j < W.heap.size -> j ≠ base + 3 -> j ≠ base + 4 -> (W1.setCell ⟨base + 4, 0, none⟩ (.slice (some ⟨base + 3, 0, none⟩) Q'.length k)).heap[j]? = W.heap[j]? := fun j hj hn hn2 => by
    rw [hE2.block j (Nat.lt_of_lt_of_le hj hE.size) (by simpa using hn2), h1 j hj hn]
  have hbl := h1 (base + 4) (by omega) (by omega)
  rw [h.bl] at hbl
  have hnew : (W1.setCell ⟨base + 4, 0, none⟩ (.slice (some ⟨base + 3, 0, none⟩) Q'.length k)).heap[base + 4]? = some (.cells #[.slice (some ⟨base + 3, 0, none⟩) Q'.length k] 22 (0, 0)) := by
    simp only [World.setCell, Array.getElem?_modify, hbl]
    simp
  refine ⟨⟨by rw [h2 base (by omega) (by omega) (by omega)]; exact h.bn, by rw [h2 _ (by omega) (by omega) (by omega)]; exact h.bk, by rw [h2 _ (by omega) (by omega) (by omega)]; exact h.bf, hnew, by rw [h2 _ (by omega) (by omega) (by omega)]; exact h.br, ?_, by simp [World.setCell]; have := hE.size; omega⟩, ?_, by simp [World.cell?, hbl], by simp [World.frozen?, hbl]⟩
  · obtain ⟨hx, us, g1, g2, g22, ⟨g3, g4⟩, g5⟩ := hO
    refine ⟨fun k hk => hide3 hk, us, g1, g2, g22, ⟨g3, ?_⟩, fun i hi hi' => intR0 _ _ _ _ (g5 i hi hi')⟩
    rcases g4 with g4 | ⟨g, c, cur, hv, q1, q2, q3⟩
    · exact .inl g4
    · simp at hv
      obtain ⟨rfl, rfl⟩ := hv
      have hlt : base + 3 < W1.heap.size := by have := hE.size; omega
      exact .inr ⟨base + 3, k, cur, by simp, q1, by rw [hE2.block _ hlt (by simp)]; exact q2, q3⟩
  · refine ⟨hE2.os.trans hE.os, hE2.tape.trans hE.tape, hE2.output.trans hE.output, Nat.le_trans hE.size hE2.size, fun j hj hy => h2 j hj ?_ ?_⟩
    · intro e; subst e; simp [ownB] at hy
    · intro e; subst e; simp [ownB] at hy
section
variable (cb base n k : Nat) (caps : Array Value) (Inv : List (List Int) -> World -> Prop)
set_option maxRecDepth 100000 in
theorem from_any (hcf : ∀ (args : Array Value) (W : World), Sem.run Tryz.prog (callFunc cb args) W = .ok (.enter cb args) W) (hn : n <= 64) (hk : k <= 64)
    (hInv : ∀ done W W', Inv done W -> ExtX (ownB base) W W' -> Inv done W')
    (hCB : ∀ (done : List (List Int)) (s : List Int) (W : World), Inv done W -> (∃ rest, done ++ [s] ++ rest = combs n k 0) -> Sl (IntIn .i64) 1 W.cell? (some ⟨base + 3, 0, none⟩) s -> base + 6 <= W.heap.size ->
      Calls Tryz.prog cb (#[.slice (some ⟨base + 3, 0, none⟩) s.length k] ++ caps) W (fun e W' => e = .returned (.tuple #[]) /\ Inv (done ++ [s]) W' /\ Keep base W W')) (g : Nat) :
    ∀ (i : Nat) (Q : List Int) (done : List (List Int)) (W : World), Q.length + g = k -> i <= n + 1 -> FromSt base n k (.func (.func cb) #[] caps) W Q -> Inv done W -> Hid (∃ rest, done ++ (combs (n - i) g i).map (Q ++ ·) ++ rest = combs n k 0) ->
    Calls Tryz.prog 108 #[.int .i64 (i : Int), .pointer (some ⟨base + 4, 0, none⟩), .pointer (some ⟨base + 1, 0, none⟩), .pointer (some ⟨base + 2, 0, none⟩), .pointer (some ⟨base, 0, none⟩), .pointer (some ⟨base + 5, 0, none⟩)] W
      (fun e W' => e = .returned (.tuple #[]) /\ FromSt base n k (.func (.func cb) #[] caps) W' Q /\ Inv (done ++ (combs (n - i) g i).map (Q ++ ·)) W') := by
  induction g with
  | zero =>
    intro i Q done W hQ hi hst hiv hpre
    have cl : W.cell? ⟨base + 4, 0, none⟩ = some (.slice (some ⟨base + 3, 0, none⟩) Q.length k) := by simp [World.cell?, hst.bl]
    have ck : W.cell? ⟨base + 1, 0, none⟩ = some (.int .i64 (k : Int)) := by simp [World.cell?, hst.bk]
    have cf : W.cell? ⟨base + 2, 0, none⟩ = some (.func (.func cb) #[] caps) := by simp [World.cell?, hst.bf]
    have hs : Sl (IntIn .i64) 1 W.cell? (some ⟨base + 3, 0, none⟩) Q := by
      have := (hst.ol.hide0 intR0 (Z := noY) (fun k hk => rfl)).sl (IntIn.elem _)
      rw [mk_noY] at this; exact this
    have hQk : Q.length = k := by omega
    go_enter Tryz.func108, Tryz.ntmps108
    go_wp2_with fail
    have hcb := hCB done Q W hiv (by obtain ⟨rest, hr⟩ := hpre.out; rw [combs_zero] at hr; exact ⟨rest, by simpa using hr⟩) hs hst.sz
    rw [hQk] at hcb
    refine hcb.mono ?_
    rintro e w1 ⟨rfl, hiv1, hkp⟩
    have hst1 := hst.keep hkp
    have hfin : Hid (done ++ (combs (n - i) 0 i).map (Q ++ ·) = done ++ [Q]) := hid (by rw [combs_zero]; simp)
    clear hst hs cl ck cf hcb
    go_wp2_with fail
    refine bodyPost_ret (results_none rfl _ _ _) rfl ?_
    rw [hfin.out]
    exact ⟨rfl, hst1, hiv1⟩
  | succ g ih =>
    intro i Q done W hQ hi hst hiv hpre
    have cl : W.cell? ⟨base + 4, 0, none⟩ = some (.slice (some ⟨base + 3, 0, none⟩) Q.length k) := by simp [World.cell?, hst.bl]
    have ck : W.cell? ⟨base + 1, 0, none⟩ = some (.int .i64 (k : Int)) := by simp [World.cell?, hst.bk]
    have hQk : ((Q.length : Int) == (k : Int)) = false := beqF (by omega)
    go_enter Tryz.func108, Tryz.ntmps108
    go_wp2_with fail
    go_loopw [0] (fun c wr => ∃ (j : Nat) (D : List (List Int)), c = .int .i64 j /\ j <= n + 1 /\ FromSt base n k (.func (.func cb) #[] caps) wr Q /\ Inv D wr /\ Hid (D ++ (combs (n - j) (g + 1) j).map (Q ++ ·) = done ++ (combs (n - i) (g + 1) i).map (Q ++ ·)) ) (fun c _ => n + 1 - (intOf c).toNat)
    case atStart => exact ⟨i, done, rfl, hi, hst, hiv, hid rfl⟩
    case round =>
      obtain ⟨j, D, rfl, hj, hst1, hiv1, hDe⟩ := hrel
      clear cl ck hst hiv
      have cl : wr.cell? ⟨base + 4, 0, none⟩ = some (.slice (some ⟨base + 3, 0, none⟩) Q.length k) := by simp [World.cell?, hst1.bl]
      have ck : wr.cell? ⟨base + 1, 0, none⟩ = some (.int .i64 (k : Int)) := by simp [World.cell?, hst1.bk]
      have cn : wr.cell? ⟨base, 0, none⟩ = some (.int .i64 (n : Int)) := by simp [World.cell?, hst1.bn]
      by_cases hlt : j + g + 1 <= n
      · obtain ⟨m, hm⟩ : ∃ m, n - j = m + 1 := ⟨n - j - 1, by omega⟩
        have hmn : n - (j + 1) = m := by omega
        go_wp2_with (at_builtin; refine st_append_room slInt (IntIn.elem .i64) rfl rfl rfl hst1.ol (.int .i64 j) (j : Int) rfl rfl (by omega) ?_; intro w2 hO2 hE2; obtain ⟨hst2, hE3, cl2, fl2⟩ := hst1.set hE2 hO2 (Q.length + 1) (by simp); have cr := cell_of_one hst2.br)
        have hiv2 := hInv _ _ _ hiv1 hE3
        have hih := ih (j + 1) (Q ++ [(j : Int)]) D _ (by simp; omega) (by omega) hst2 hiv2 (hid (by
          obtain ⟨rest, hr⟩ := hpre.out
          refine ⟨(combs (n - (j + 1)) (g + 1) ((j + 1 : Nat) : Int)).map (Q ++ ·) ++ rest, ?_⟩
          rw [<- hr, <- hDe.out, hm, hmn, combs, show ((j + 1 : Nat) : Int) = (j : Int) + 1 by omega]
          have hmm : (combs m g ((j : Int) + 1)).map ((Q ++ [(j : Int)]) ++ ·) = ((combs m g ((j : Int) + 1)).map ((j : Int) :: ·)).map (Q ++ ·) := by
            rw [List.map_map]
            apply List.map_congr_left
            intro r _
            simp
          rw [hmm, List.map_append]
          simp only [List.append_assoc]))
        rw [show ((j + 1 : Nat) : Int) = (j : Int) + 1 by omega] at hih
        refine hih.mono ?_
        rintro e w4 ⟨rfl, hst4, hiv4⟩
        clear hih
        have cl4 := cell_of_one hst4.bl
        rw [show (Q ++ [(j : Int)]).length = Q.length + 1 by simp] at cl4
        have htk := hst4.ol.take (IntIn.elem .i64).size Q.length
        rw [List.take_left] at htk
        obtain ⟨hst5, hE5, _, fl4⟩ := hst4.set (ExtX.refl _) htk Q.length rfl
        have hiv5 := hInv _ _ _ hiv4 hE5
        have hDe2 : Hid ((D ++ (combs (n - (j + 1)) g ((j : Int) + 1)).map ((Q ++ [(j : Int)]) ++ ·)) ++ (combs (n - (j + 1)) (g + 1) ((j + 1 : Nat) : Int)).map (Q ++ ·) = done ++ (combs (n - i) (g + 1) i).map (Q ++ ·)) := hid (by
          rw [<- hDe.out, hm, hmn, combs, show ((j + 1 : Nat) : Int) = (j : Int) + 1 by omega]
          have hmm : (combs m g ((j : Int) + 1)).map ((Q ++ [(j : Int)]) ++ ·) = ((combs m g ((j : Int) + 1)).map ((j : Int) :: ·)).map (Q ++ ·) := by
            rw [List.map_map]
            apply List.map_congr_left
            intro r _
            simp
          rw [hmm, List.map_append, List.append_assoc])
        clear cl ck cn hst1 hiv1 hO2 hE2 hst2 hE3 cl2 fl2 cr hiv2 hm hmn
        go_wp2_with fail
        go_roundw
        case rel => exact ⟨j + 1, _, by go_num, by omega, hst5, hiv5, hDe2⟩
        case measure => simp [intOf]; omega
      · have hnil : Hid (D = done ++ (combs (n - i) (g + 1) i).map (Q ++ ·)) := hid (by
          have := hDe.out
          rw [combs_nil (by omega)] at this
          simpa using this)
        go_wp2_with fail
        go_end0
        rw [<- hnil.out]
        exact ⟨rfl, hst1, hiv1⟩
end
theorem two_new (w : World) (u v : Value) (t1 t2 : TypeId) (wd : World) (h : (w.alloc (.cells #[u] t1)).alloc (.cells #[v] t2) = wd) : Ext w wd /\ wd.heap[w.heap.size]? = some (.cells #[u] t1 (0, 0)) /\ wd.heap[w.heap.size + 1]? = some (.cells #[v] t2 (0, 0)) /\ wd.heap.size = w.heap.size + 2 := by
  subst h
  refine ⟨((ExtX.refl w).alloc _).alloc _, ?_, ?_, by simp⟩
  · rw [Below.heap_alloc _ _ _ (by simp)]; exact heap_alloc_new w _
  · have := heap_alloc_new (w.alloc (.cells #[u] t1)) (.cells #[v] t2 (0, 0))
    simpa using this
theorem infFn : (Tryz.prog.info? 115).map (fun i => (i.zero, i.size, i.bytes)) = some (some .nilFunc, 1, 8) := by kernel_rfl
theorem tyFn : TyI Tryz.prog 115 1 := let ⟨i, h, _, h2, _⟩ := info_parts infFn; ⟨i, h, h2⟩
theorem hbB_lt (W : World) (g : Nat) : ∀ j, hbB W g j = true -> j < W.heap.size := fun j hj => by
  have h : j < W.heap.size /\ ¬ j = g := by simpa [hbB] using hj
  exact h.1
theorem made_facts {w wb wc wd : World} {vk u v : Value} {t0 t1 t2 : TypeId} (hzb : wb.heap.size = w.heap.size + 3) (hEc : Ext wb wc) (hzc : wc.heap.size = wb.heap.size + 1) (hwd : (wc.alloc (.cells #[u] t1)).alloc (.cells #[v] t2) = wd) (b1 : wb.heap[w.heap.size + 1]? = some (.cells #[vk] t0 (0, 0))) :
    Ext wc wd /\ wd.cell? ⟨w.heap.size + 3 + 1 + 1, 0, none⟩ = some v /\ wd.frozen? ⟨w.heap.size + 3 + 1 + 1, 0, none⟩ = false /\ wd.cell? ⟨w.heap.size + 1, 0, none⟩ = some vk /\
      wd.heap[w.heap.size + 3 + 1]? = some (.cells #[u] t1 (0, 0)) /\ wd.heap[w.heap.size + 3 + 1 + 1]? = some (.cells #[v] t2 (0, 0)) /\ wd.heap.size = w.heap.size + 6 := by
  obtain ⟨hEd, d4, d5, hzd⟩ := two_new wc _ _ _ _ wd hwd
  have hz4 : wc.heap.size = w.heap.size + 3 + 1 := by omega
  rw [hz4] at d4 d5
  have e1 := (hEc.trans hEd).block (w.heap.size + 1) (by omega) rfl
  rw [b1] at e1
  exact ⟨hEd, cell_of_one d5, free_of_one d5, cell_of_one e1, d4, d5, by omega⟩
theorem FromSt.start {w wb wc wd : World} {n k : Nat} {fv : Value} {X : Nat -> Bool} (hEb : Ext w wb) (hzb : wb.heap.size = w.heap.size + 3)
    (b0 : wb.heap[w.heap.size]? = some (.cells #[.int .i64 (n : Int)] 3 (0, 0))) (b1 : wb.heap[w.heap.size + 1]? = some (.cells #[.int .i64 (k : Int)] 3 (0, 0))) (b2 : wb.heap[w.heap.size + 2]? = some (.cells #[fv] 93 (0, 0)))
    (hEc : Ext wb wc) (hzc : wc.heap.size = wb.heap.size + 1) (hOc : OL (IntIn .i64) 1 X w.heap.size 3 wc (some ⟨wb.heap.size, 0, none⟩) k []) (hEd : Ext wc wd)
    (d4 : wd.heap[w.heap.size + 3 + 1]? = some (.cells #[.slice (some ⟨w.heap.size + 3, 0, none⟩) 0 k] 22 (0, 0))) (d5 : wd.heap[w.heap.size + 3 + 1 + 1]? = some (.cells #[.nilFunc] 115 (0, 0))) (hzd : wd.heap.size = w.heap.size + 6) :
    FromSt w.heap.size n k fv (wd.setCell ⟨w.heap.size + 3 + 1 + 1, 0, none⟩ (.func (.func 108) #[] #[.pointer (some ⟨w.heap.size + 3 + 1, 0, none⟩), .pointer (some ⟨w.heap.size + 1, 0, none⟩), .pointer (some ⟨w.heap.size + 1 + 1, 0, none⟩), .pointer (some ⟨w.heap.size, 0, none⟩), .pointer (some ⟨w.heap.size + 3 + 1 + 1, 0, none⟩)])) [] /\
      ExtX (ownB w.heap.size) w (wd.setCell ⟨w.heap.size + 3 + 1 + 1, 0, none⟩ (.func (.func 108) #[] #[.pointer (some ⟨w.heap.size + 3 + 1, 0, none⟩), .pointer (some ⟨w.heap.size + 1, 0, none⟩), .pointer (some ⟨w.heap.size + 1 + 1, 0, none⟩), .pointer (some ⟨w.heap.size, 0, none⟩), .pointer (some ⟨w.heap.size + 3 + 1 + 1, 0, none⟩)])) := by
  obtain ⟨f, hf⟩ : ∃ f, Value.func (.func 108) #[] #[.pointer (some ⟨w.heap.size + 3 + 1, 0, none⟩), .pointer (some ⟨w.heap.size + 1, 0, none⟩), .pointer (some ⟨w.heap.size + 1 + 1, 0, none⟩), .pointer (some ⟨w.heap.size, 0, none⟩), .pointer (some ⟨w.heap.size + 3 + 1 + 1, 0, none⟩)] = f := ⟨_, rfl⟩
  rw [hf]
  have hother : ∀ j, j ≠ w.heap.size + 5 -> (wd.setCell ⟨w.heap.size + 3 + 1 + 1, 0, none⟩ f).heap[j]? = wd.heap[j]? := fun j hj => Below.heap_setCell _ _ _ _ (fun e => hj e)
  have hE : Ext wb wd := hEc.trans hEd
  have hn5 : (wd.setCell ⟨w.heap.size + 3 + 1 + 1, 0, none⟩ f).heap[w.heap.size + 3 + 1 + 1]? = some (.cells #[f] 115 (0, 0)) := by
    simp only [World.setCell, Array.getElem?_modify, d5]
    simp
  refine ⟨⟨?_, ?_, ?_, ?_, ?_, ?_, by simp [World.setCell, hzd]⟩, ?_⟩
  · rw [hother _ (by omega), hE.block _ (by omega) rfl]; exact b0
  · rw [hother _ (by omega), hE.block _ (by omega) rfl]; exact b1
  · rw [hother _ (by omega), hE.block _ (by omega) rfl]; exact b2
  · rw [hother _ (by omega)]; exact d4
  · rw [<- hf] at hn5 |-; exact hn5
  · rw [hzb] at hOc
    obtain ⟨hx, us, g1, g2, g22, ⟨g3, g4⟩, g5⟩ := hOc
    refine ⟨fun k hk => hide3 hk, us, g1, g2, g22, ⟨g3, ?_⟩, fun i hi hi' => intR0 _ _ _ _ (g5 i hi hi')⟩
    rcases g4 with g4 | ⟨g, c, cur, hv, q1, q2, q3⟩
    · exact .inl g4
    · simp at hv
      obtain ⟨rfl, rfl⟩ := hv
      exact .inr ⟨w.heap.size + 3, k, cur, by simp, q1, by rw [hother _ (by omega), hEd.block _ (by omega) rfl]; exact q2, q3⟩
  · refine ⟨hEd.os.trans (hEc.os.trans hEb.os), hEd.tape.trans (hEc.tape.trans hEb.tape), hEd.output.trans (hEc.output.trans hEb.output), by simp [World.setCell, hzd], fun j hj _ => ?_⟩
    rw [hother _ (by omega), (hEb.trans hE).block j hj rfl]
set_option maxRecDepth 100000 in
theorem subsets_any (cb n k : Nat) (caps : Array Value) (Inv : List (List Int) -> World -> Prop) (w : World) (hcf : ∀ (args : Array Value) (W : World), Sem.run Tryz.prog (callFunc cb args) W = .ok (.enter cb args) W) (hn : n <= 64) (hk : k <= 64)
    (hInv : ∀ done W W', Inv done W -> ExtX (ownB w.heap.size) W W' -> Inv done W')
    (hCB : ∀ (done : List (List Int)) (s : List Int) (W : World), Inv done W -> (∃ rest, done ++ [s] ++ rest = combs n k 0) -> Sl (IntIn .i64) 1 W.cell? (some ⟨w.heap.size + 3, 0, none⟩) s -> w.heap.size + 6 <= W.heap.size ->
      Calls Tryz.prog cb (#[.slice (some ⟨w.heap.size + 3, 0, none⟩) s.length k] ++ caps) W (fun e W' => e = .returned (.tuple #[]) /\ Inv (done ++ [s]) W' /\ Keep w.heap.size W W'))
    (h0 : Inv [] w) :
    Calls Tryz.prog 72 #[.int .i64 (n : Int), .int .i64 (k : Int), .func (.func cb) #[] caps] w (fun e W' => e = .returned (.tuple #[]) /\ Inv (combs n k 0) W') := by
  have hmf : ∀ (fn : Fn) (first cap : Array Value) (w : World), (Instr.makeFunc fn first cap).run Tryz.prog w = .ok (.func fn first cap) w := fun _ _ _ _ => rfl
  obtain ⟨wb, hwb⟩ : ∃ wb, (((w.alloc (.cells #[.int .i64 (n : Int)] 3)).alloc (.cells #[.int .i64 (k : Int)] 3)).alloc (.cells #[.func (.func cb) #[] caps] 93)) = wb := ⟨_, rfl⟩
  have hEb : Ext w wb := by rw [<- hwb]; exact (((ExtX.refl w).alloc _).alloc _).alloc _
  have hzb : wb.heap.size = w.heap.size + 3 := by rw [<- hwb]; simp
  have b0 : wb.heap[w.heap.size]? = some (.cells #[.int .i64 (n : Int)] 3 (0, 0)) := by
    rw [<- hwb, Below.heap_alloc _ _ _ (by simp; omega), Below.heap_alloc _ _ _ (by simp)]; exact heap_alloc_new w _
  have b1 : wb.heap[w.heap.size + 1]? = some (.cells #[.int .i64 (k : Int)] 3 (0, 0)) := by
    rw [<- hwb, Below.heap_alloc _ _ _ (by simp)]
    have := heap_alloc_new (w.alloc (.cells #[.int .i64 (n : Int)] 3)) (.cells #[.int .i64 (k : Int)] 3 (0, 0))
    simpa using this
  have b2 : wb.heap[w.heap.size + 2]? = some (.cells #[.func (.func cb) #[] caps] 93 (0, 0)) := by
    rw [<- hwb]
    have := heap_alloc_new ((w.alloc (.cells #[.int .i64 (n : Int)] 3)).alloc (.cells #[.int .i64 (k : Int)] 3)) (.cells #[.func (.func cb) #[] caps] 93 (0, 0))
    simpa using this
  have ck := cell_of_one b1
  go_enter Tryz.func72, Tryz.ntmps72
  go_wp2_with (first | ((with_reducible show wpList _ _ _ (⟨_, .store _ _ _, _, _, _, _⟩ :: _) _ _); refine st_cell tyFn rfl rfl rfl rfl cd fd ?_) | (at_make; refine st_make0 (R := IntIn .i64) slInt rfl (hbB wb (w.heap.size + 3)) (hbB_lt wb _) w.heap.size hEb.size k rfl rfl rfl rfl (by omega) (by omega) ?_; intro wc hOc hEc hzc; obtain ⟨wd, hwd⟩ : ∃ wd, (wc.alloc (.cells #[.slice (some ⟨w.heap.size + 3, 0, none⟩) 0 k] 22)).alloc (.cells #[.nilFunc] 115) = wd := ⟨_, rfl⟩; obtain ⟨hEd, cd, fd, ck2, d4, d5, hzd⟩ := made_facts hzb hEc hzc hwd b1))
  obtain ⟨hst0, hEf⟩ := FromSt.start (fv := .func (.func cb) #[] caps) hEb hzb b0 b1 b2 hEc hzc hOc hEd d4 d5 hzd
  have hpre : Hid (∃ rest, ([] : List (List Int)) ++ (combs (n - 0) k ((0 : Nat) : Int)).map (([] : List Int) ++ ·) ++ rest = combs n k 0) := hid ⟨[], by simp⟩
  refine (from_any cb w.heap.size n k caps Inv hcf hn hk hInv hCB k 0 [] [] _ (by simp) (by omega) hst0 (hInv _ _ _ h0 hEf) hpre).mono ?_
  rintro e w9 ⟨rfl, _, hiv⟩
  have hfin : Hid (([] : List (List Int)) ++ (combs (n - 0) k ((0 : Nat) : Int)).map (([] : List Int) ++ ·) = combs n k 0) := hid (by simp)
  rw [hfin.out] at hiv
  clear hst0 hEf cd fd ck2 d4 d5 hEd hOc hEc b0 b1 b2 hEb ck hwd hwb
  go_wp2_with fail
  go_end0
  exact ⟨rfl, hiv⟩
end Go.Proofs.YthipmbmjodhiiaaGreat
namespace Go
section
variable {P : Program} {ops : Array Oper} {Q : Exit -> Act -> World -> Prop} {md : Region.Mode} {S : World -> Prop} {n : Nat}
def wpAnyK (P : Program) (md : Region.Mode) (ops : Array Oper) (Q : Exit -> Act -> World -> Prop) (S : World -> Prop) (n : Nat) : Nat -> Array Bool -> Act -> World -> Prop
  | 0, listed, a, w => Region.ready md ops listed = [] /\ Q .normal a w
  | fuel + 1, listed, a, w =>
    (Region.ready md ops listed = [] -> Q .normal a w) /\
    ∀ i ∈ Region.ready md ops listed, wpOp P ops Q i (fun a' w' => (i < n -> S w') /\ wpAnyK P md ops Q S n fuel (listed.setIfInBounds i true) a' w') a w
theorem wpAny_of_K : ∀ (fuel : Nat) (listed : Array Bool) (a : Act) (w : World), wpAnyK P md ops Q S n fuel listed a w -> wpAny P md ops Q fuel listed a w
  | 0, _, _, _, h => h
  | fuel + 1, _, _, _, h => ⟨h.1, fun i hi => wpOp_mono (fun a' w' h' => wpAny_of_K fuel _ a' w' h'.2) (h.2 i hi)⟩
theorem wpAnyK_first {i : Nat} {oi : Oper} {v : Value} (hs : Region.sinkB md ops n = true) (hc : Region.chainB md ops n = true) (hn : n < ops.size) (hin : i < n) (hi : ops[i]? = some oi) (hsel : ∀ (j : Nat) (o : Oper) cs b, ops[j]? = some o -> o.op ≠ .select cs b)
    (hQ : ∀ c a w, Q (.panic c) (a.put oi.dst v) w -> Q (.panic c) a w) :
    ∀ (fuel : Nat) (listed : Array Bool) (a : Act) (w : World), HeadInv md ops n listed ->
      (∀ j oj, ops[j]? = some oj -> j ≠ i -> listed.getD j true = false -> (∀ e ∈ oj.after, Region.binds md e = true -> e.on ≠ i) -> oi.apart ops oj = true) ->
      i ∈ Region.ready md ops listed -> YieldsIf P ops S oi v a -> S w ->
      wpAnyK P md ops Q S n fuel (listed.setIfInBounds i true) (a.put oi.dst v) w -> wpAnyK P md ops Q S n (fuel + 1) listed a w := by
  intro fuel
  induction fuel with
  | zero =>
    intro listed a w _ _ hr hy hS H
    refine ⟨fun h => (by rw [h] at hr; cases hr), fun j hj => ?_⟩
    by_cases hji : j = i
    · subst hji; exact hy.wpOp hi hS ⟨fun _ => hS, H⟩
    · have := ready_mono hj hji
      rw [H.1] at this
      cases this
  | succ fuel ih =>
    intro listed a w inv hfree hr hy hS H
    refine ⟨fun h => (by rw [h] at hr; cases hr), fun j hj => ?_⟩
    by_cases hji : j = i
    · subst hji; exact hy.wpOp hi hS ⟨fun _ => hS, H⟩
    · have hjn : j < n := by
        rcases Nat.lt_or_ge j n with h | h
        · exact h
        · exact absurd hj (tail_waits hs hc hn inv (n - i) i rfl hin (mem_ready.1 hr).1 j h)
      have h1 := H.2 j (ready_mono hj hji)
      obtain ⟨hjun, oj, hoj, hall⟩ := mem_ready.1 hj
      have hnot : ∀ e ∈ oj.after, Region.binds md e = true -> e.on ≠ i := fun e he hb heq => by
        have h1 := hall e he hb
        have h0 := (mem_ready.1 hr).1
        rw [heq] at h1
        rcases Nat.lt_or_ge i listed.size with h' | h'
        · simp [h'] at h0 h1; rw [h0] at h1; cases h1
        · simp [Array.getElem?_eq_none h'] at h1
      have h2 := wpOp_putIf hoj (hfree j oj hoj hji hjun hnot) (fun cs b => hsel i oi cs b hi) (fun cs b => hsel j oj cs b hoj) hQ hy h1
      have hfree' : ∀ k ok, ops[k]? = some ok -> k ≠ i -> (listed.setIfInBounds j true).getD k true = false ->
          (∀ e ∈ ok.after, Region.binds md e = true -> e.on ≠ i) -> oi.apart ops ok = true := fun k ok hk hki hun hno => by
        refine hfree k ok hk hki ?_ hno
        by_cases hjk : j = k
        · subst hjk; exact hjun
        · rw [getD_set_ne true hjk] at hun; exact hun
      refine wpOp_mono (fun a' w' h3 => ⟨h3.2.1, ih (listed.setIfInBounds j true) a' w' (inv.set hj hjn) hfree' (ready_mono hr (Ne.symm hji)) h3.1 (h3.2.1 hjn) ?_⟩) h2
      rw [Array.setIfInBounds_comm _ _ hji]
      exact h3.2.2
def headB (md : Region.Mode) (ops : Array Oper) (n : Nat) (listed : Array Bool) : Bool :=
  decide (listed.size = ops.size) &&
  ((List.range ops.size).all fun j => !listed.getD j false || (match ops[j]? with | some o => o.after.all fun e => !Region.binds md e || listed.getD e.on false | none => true)) &&
  ((List.range ops.size).all fun t => decide (t < n) || !listed.getD t true)
theorem headB_inv {listed : Array Bool} (h : headB md ops n listed = true) : HeadInv md ops n listed := by
  unfold headB at h
  simp only [Bool.and_eq_true, decide_eq_true_eq] at h
  obtain ⟨⟨h1, h2⟩, h3⟩ := h
  refine ⟨h1, fun j oj hj hl e he hb => ?_, fun t ht ht' => ?_⟩
  · have hlt : j < ops.size := (Array.getElem?_eq_some_iff.1 hj).1
    have h4 := List.all_eq_true.1 h2 j (List.mem_range.2 hlt)
    rw [hl, hj] at h4
    simp only [Bool.not_true, Bool.false_or] at h4
    have h5 := Array.all_eq_true_iff_forall_mem.1 h4 e he
    rw [hb] at h5
    simpa using h5
  · have h4 := List.all_eq_true.1 h3 t (List.mem_range.2 ht')
    simp only [Bool.or_eq_true, decide_eq_true_eq, Bool.not_eq_true'] at h4
    rcases h4 with h4 | h4
    · omega
    · exact h4
def takeB (md : Region.Mode) (ops : Array Oper) (n i : Nat) (listed : Array Bool) : Bool :=
  decide (i < n) && headB md ops n listed && Region.free md ops listed i && (Region.ready md ops listed).contains i
def onceB (md : Region.Mode) (ops : Array Oper) (n : Nat) : Bool := Region.sinkB md ops n && Region.chainB md ops n && decide (n < ops.size) && Region.noSelect ops
theorem wpAnyK_take {i : Nat} {oi : Oper} {v : Value} {fuel : Nat} {listed : Array Bool} {a : Act} {w : World} (hO : Shut (onceB md ops n = true)) (hi : ops[i]? = some oi)
    (hB : takeB md ops n i listed = true)
    (hQ : ∀ c a w, Q (.panic c) (a.put oi.dst v) w -> Q (.panic c) a w) (hS : S w) (hw : Region.wanted oi (yielded ops a.tmps) = true) (hy : ∀ w, S w -> (execOp a.eval oi).run P w = .ok (.value v) w)
    (h : wpAnyK P md ops Q S n fuel (listed.setIfInBounds i true) (a.put oi.dst v) w) : wpAnyK P md ops Q S n (fuel + 1) listed a w := by
  unfold takeB at hB
  simp only [Bool.and_eq_true, decide_eq_true_eq] at hB
  obtain ⟨⟨⟨b4, b5⟩, b7⟩, b8⟩ := hB
  have hO := hO.out
  unfold onceB at hO
  simp only [Bool.and_eq_true, decide_eq_true_eq] at hO
  obtain ⟨⟨⟨b1, b2⟩, b3⟩, b6⟩ := hO
  exact wpAnyK_first b1 b2 b3 b4 hi (Region.noSelect_spec b6) hQ fuel listed a w (headB_inv b5) (Region.free_spec hi b7) (by simpa using b8) (.inl ⟨hw, hy⟩) hS h
theorem wpAnyK_step {i : Nat} {o : Oper} {fuel : Nat} {listed : Array Bool} {a : Act} {w : World} (hr : Region.ready md ops listed = [i]) (ho : ops[i]? = some o)
    (h : ∀ K' : Act -> World -> Prop, Shut (∀ a w, S w -> (S w -> wpAnyK P md ops Q S n fuel (listed.setIfInBounds i true) a w) -> K' a w) -> if Region.wanted o (yielded ops a.tmps) = true then Oper.wp P o a w K' Q else K' (a.put o.dst undef) w) : wpAnyK P md ops Q S n (fuel + 1) listed a w := by
  refine ⟨fun h0 => (by rw [hr] at h0; cases h0), fun j hj => ?_⟩
  rw [hr] at hj
  have : j = i := by simpa using hj
  subst this
  exact wpOp_step ho (fun K' hK => h K' (fun a w hS hW => hK a w ⟨fun _ => hS, hW hS⟩))
theorem wpAnyK_last {i : Nat} {o : Oper} {fuel : Nat} {listed : Array Bool} {a : Act} {w : World} (hr : Region.ready md ops listed = [i]) (ho : ops[i]? = some o) (hin : n <= i)
    (hd : Region.ready md ops (listed.setIfInBounds i true) = [])
    (h : ∀ K' : Act -> World -> Prop, Shut (∀ a w, Q .normal a w -> K' a w) -> if Region.wanted o (yielded ops a.tmps) = true then Oper.wp P o a w K' Q else K' (a.put o.dst undef) w) : wpAnyK P md ops Q S n (fuel + 1) listed a w := by
  refine ⟨fun h0 => (by rw [hr] at h0; cases h0), fun j hj => ?_⟩
  rw [hr] at hj
  have : j = i := by simpa using hj
  subst this
  refine wpOp_step ho (fun K' hK => h K' (fun a w hq => hK a w ⟨fun hlt => absurd hlt (Nat.not_lt.2 hin), ?_⟩))
  cases fuel with
  | zero => exact ⟨hd, hq⟩
  | succ f => exact ⟨fun _ => hq, by rw [hd]; simp⟩
theorem wp_region_K {id : Nat} {a : Act} {w : World} (n : Nat) (S : World -> Prop) (hm : P.follows .mixedOrders = true) (hO : onceB .any ops n = true) (hS : S w.drew)
    (h : S w.drew -> Shut (onceB .any ops n = true) -> wpAnyK P .any ops Q S n ops.size (Array.replicate ops.size false) a w.drew) : (Code.region id ops true).wp P Q a w :=
  wp_region_any hm (wpAny_of_K _ _ _ _ (h hS hO))
end
end Go
namespace Go.Rep
open Go.RowKit Go.Lim
section
variable {P : Program} {ops : Array Oper} {Q : Exit -> Act -> World -> Prop} {a : Act} {w : World}
variable {α : Type} {R : Mem -> Value -> α -> Prop} {sz : Nat} {X : Nat -> Bool} {base : Nat} {e : TypeId} {ao : Option Addr} {cap : Nat} {l : List α}
theorem step_appendl {o : Oper} {K : Act -> World -> Prop} {E : Prop} {t by_ : Nat} {z : Value} {s x : Operand} {ax : Option Addr} {cs : Nat}
    (hg : o.guard = none) (hop : o.op = Op.call { callee := Callee.builtin Builtin.append, args := #[s, x], argTypes := #[t, t] }) (T : SliceT P t e sz by_ z) (hzs : z.cells.size = sz) (hR : Elem R sz) (hbase : base <= w.heap.size) (hX : ∀ k, X k = true -> k < w.heap.size) (xs : List α) (n m : Nat) (hn : l.length = n) (hm : xs.length = m)
    (hs : a.eval s = .slice ao n cap) (hx : a.eval x = .slice ax m cs) (h : OL R sz X base e w ao cap l)
    (hxs : Sl R sz (mk (un X ao) w) ax xs) (hroom : (n + m) * by_ <= 140737488355328) (hmax : n + m <= 9223372036854775807)
    (hK : ∀ ao' cap' w', OL R sz X base e w' ao' cap' (l ++ xs) -> ExtX (ob ao) w w' -> (ao' = ao \/ ∃ g, ao' = some ⟨g, 0, none⟩ /\ w.heap.size <= g) -> K (a.put o.dst (.slice ao' (n + m) cap')) w') :
    if Region.wanted o (yielded ops a.tmps) = true then Oper.wp P o a w K Q else E := by
  have hw : Region.wanted o (yielded ops a.tmps) = true := by simp [Region.wanted, hg]
  rw [if_pos hw]
  subst hn hm
  obtain ⟨us, h1, h2, h3⟩ := hxs.at_ hR
  obtain ⟨ao', cap', w', hr, h2, h3, h4⟩ := h.run_append (P := P) T hzs hR hbase hX ax cs us xs h2 h1 h3 hroom hmax o.type
  unfold Oper.wp execOp
  rw [hop]
  simp only [resolve, invoke, builtin, Sem.run_bind, Sem.run_pure, Result.andThen_ok, List.map_toArray, List.map_cons, List.map_nil, hs, hx]
  rw [hr]
  have := hK ao' cap' w' h2 h3 h4
  rw [show (l ++ xs).length = l.length + xs.length from by simp]
  exact this
end
end Go.Rep
namespace Go.Proofs.YthipmbmjodhiiaaGreat
open Go.RowKit Go.Rep Go.Lim Go.Lin
theorem infRatss : (Tryz.prog.info? 25).map (fun i => (i.zero, i.size, i.bytes)) = some (some (.slice none 0 0), 1, 24) := by kernel_rfl
theorem tyRatss : TyI Tryz.prog 25 1 := let ⟨i, h, _, h2, _⟩ := info_parts infRatss; ⟨i, h, h2⟩
def uB : Nat := 10000000000
def BestOut (X : Nat -> Bool) (w : World) (c : Nat) (z : Mat) (e : Ending) (w' : World) : Prop := Ext w w' /\ ∃ (cnt : Nat) (dv : Value) (us : Mat), e = .returned (.tuple #[.int .i64 (cnt : Int), dv]) /\ MV (mk X w') dv us /\ BM uB us /\ (∀ r ∈ us, r.length = c) /\ IsDep c (vecs z) cnt /\ Wit c (vecs z) cnt (vecs us)
def BestC (n : Nat) : Prop := ∀ (X : Nat -> Bool) (w : World) (u : Value) (z : List (List Rat)) (c B : Nat), HX X w -> MV (mk X w) u z -> Shp n c z -> n <= 64 -> 1 <= c -> c <= 3 -> BM B z -> 1 <= B -> B <= 6500 ->
    Calls Tryz.prog 58 #[u, .int .i64 (c : Int)] w (BestOut X w c z)
def twoB (bc bs : Nat) : Nat -> Bool := fun k => (k == bc) || (k == bs)
def hidS (X : Nat -> Bool) (bc bs B0 : Nat) : Nat -> Bool := fun k => X k || twoB bc bs k || ownB B0 k
structure Lay (lo bo bu bc bd bs B0 : Nat) : Prop where
  lo1 : lo <= bo
  lo2 : lo <= bu
  lo3 : lo <= bc
  lo4 : lo <= bd
  lo5 : lo <= bs
  hi1 : bo < B0
  hi2 : bu < B0
  hi3 : bc < B0
  hi4 : bd < B0
  hi5 : bs < B0
  ne1 : bo ≠ bc
  ne2 : bo ≠ bs
  ne3 : bu ≠ bc
  ne4 : bu ≠ bs
  ne5 : bd ≠ bc
  ne6 : bd ≠ bs
  ne7 : bc ≠ bs
structure BSt (X : Nat -> Bool) (w0 : World) (bo bu bc bd bs B0 c : Nat) (oo : Option Addr) (n oc : Nat) (ov : Value) (z N : Mat) (cnt : Nat) (dv : Value) (us : Mat) (W : World) : Prop where
  ext : Ext w0 W
  b1 : Bx W bo #[.slice oo n oc] 25
  b2 : Bx W bu #[ov] 25
  b3 : Bx W bc #[.int .i64 (cnt : Int)] 3
  b4 : Bx W bd #[.int .i64 (c : Int)] 3
  b5 : Bx W bs #[dv] 25
  r1 : MV (mk (hidS X bc bs B0) W) (.slice oo n oc) z
  r2 : MV (mk (hidS X bc bs B0) W) ov N
  r3 : MV (mk (hidS X bc bs B0) W) dv us
section
variable {X : Nat -> Bool} {w0 W W' : World} {bo bu bc bd bs B0 c : Nat} {oo : Option Addr} {n oc : Nat} {ov : Value} {z N : Mat} {cnt : Nat} {dv : Value} {us : Mat}
theorem BSt.hx (_h : BSt X w0 bo bu bc bd bs B0 c oo n oc ov z N cnt dv us W) (hX : HX X w0) (hl : Lay w0.heap.size bo bu bc bd bs B0) (hB : B0 + 6 <= W.heap.size) : HX (hidS X bc bs B0) W := fun k hk => by
  have h1 := hl.hi3
  have h2 := hl.hi5
  have h0 := hl.lo1
  have h00 := hl.hi1
  simp only [hidS, twoB, ownB, Bool.or_eq_true, Bool.and_eq_true, beq_iff_eq, decide_eq_true_eq] at hk
  rcases hk with (h | h | h) | h
  · have := hX k h; omega
  · omega
  · omega
  · omega
theorem BSt.hxs (h : BSt X w0 bo bu bc bd bs B0 c oo n oc ov z N cnt dv us W) (hX : HX X w0) : HX (fun k => X k || twoB bc bs k) W := fun k hk => by
  have h3 := h.b3.lt
  have h5 := h.b5.lt
  have h0 := h.ext.size
  simp only [twoB, Bool.or_eq_true, beq_iff_eq] at hk
  rcases hk with h | h | h
  · have := hX k h; omega
  · omega
  · omega
theorem BSt.step (h : BSt X w0 bo bu bc bd bs B0 c oo n oc ov z N cnt dv us W) (hE : Ext W W') : BSt X w0 bo bu bc bd bs B0 c oo n oc ov z N cnt dv us W' :=
  ⟨h.ext.trans hE, h.b1.ext0 hE, h.b2.ext0 hE, h.b3.ext0 hE, h.b4.ext0 hE, h.b5.ext0 hE, mkx MV.mono h.r1 hE, mkx MV.mono h.r2 hE, mkx MV.mono h.r3 hE⟩
theorem BSt.own (h : BSt X w0 bo bu bc bd bs B0 c oo n oc ov z N cnt dv us W) (hl : Lay w0.heap.size bo bu bc bd bs B0) (hE : ExtX (ownB B0) W W') : BSt X w0 bo bu bc bd bs B0 c oo n oc ov z N cnt dv us W' := by
  have no : ∀ j, j < B0 -> ownB B0 j = false := fun j hj => by simp [ownB]; omega
  have hm := mk_mono (X := hidS X bc bs B0) hE fun k hk => by simp [hidS, hk]
  have := hl.lo1
  have := hl.hi1
  exact ⟨h.ext.then_ hE fun i hi _ => no i (by omega), h.b1.ext hE (no _ hl.hi1), h.b2.ext hE (no _ hl.hi2), h.b3.ext hE (no _ hl.hi3), h.b4.ext hE (no _ hl.hi4), h.b5.ext hE (no _ hl.hi5), MV.mono _ _ _ _ hm h.r1, MV.mono _ _ _ _ hm h.r2, MV.mono _ _ _ _ hm h.r3⟩
theorem BSt.put (h : BSt X w0 bo bu bc bd bs B0 c oo n oc ov z N cnt dv us W) (hl : Lay w0.heap.size bo bu bc bd bs B0) (cnt' : Nat) (dv' : Value) (us' : Mat) (hr : MV (_root_.Go.Rep.mk (hidS X bc bs B0) W) dv' us') :
    (W.setCell ⟨bc, 0, none⟩ (.int .i64 (cnt' : Int))).cell? ⟨bs, 0, none⟩ = some dv /\ (W.setCell ⟨bc, 0, none⟩ (.int .i64 (cnt' : Int))).frozen? ⟨bs, 0, none⟩ = false /\
    BSt X w0 bo bu bc bd bs B0 c oo n oc ov z N cnt' dv' us' ((W.setCell ⟨bc, 0, none⟩ (.int .i64 (cnt' : Int))).setCell ⟨bs, 0, none⟩ dv') /\ ExtX (twoB bc bs) W ((W.setCell ⟨bc, 0, none⟩ (.int .i64 (cnt' : Int))).setCell ⟨bs, 0, none⟩ dv') := by
  obtain ⟨p1, p2⟩ := setCell_block h.b3 (.int .i64 (cnt' : Int)) (i := 0) (by simp)
  have p5 := h.b5.ext p2 (ob_other hl.ne7.symm)
  obtain ⟨q1, q2⟩ := setCell_block p5 dv' (i := 0) (by simp)
  have hE : ExtX (twoB bc bs) W ((W.setCell ⟨bc, 0, none⟩ (.int .i64 (cnt' : Int))).setCell ⟨bs, 0, none⟩ dv') := by
    refine (p2.weaken fun k _ hk => ?_).trans (q2.weaken fun k _ hk => ?_)
    · refine ob_other fun e => ?_
      subst e; simp [twoB] at hk
    · refine ob_other fun e => ?_
      subst e; simp [twoB] at hk
  have hm := mk_mono (X := hidS X bc bs B0) hE fun k hk => by simp [hidS, hk]
  have n1 : twoB bc bs bo = false := by simp [twoB, hl.ne1, hl.ne2]
  have n2 : twoB bc bs bu = false := by simp [twoB, hl.ne3, hl.ne4]
  have n3 : twoB bc bs bd = false := by simp [twoB, hl.ne5, hl.ne6]
  have hlo3 := hl.lo3
  have hlo5 := hl.lo5
  refine ⟨p5.cell 0 rfl, p5.frozen 0, ⟨h.ext.then_ hE fun i hi _ => ?_, h.b1.ext hE n1, h.b2.ext hE n2, ?_, h.b4.ext hE n3, by simpa using q1, MV.mono _ _ _ _ hm h.r1, MV.mono _ _ _ _ hm h.r2, MV.mono _ _ _ _ hm hr⟩, hE⟩
  · simp [twoB]; omega
  · have := p1.ext q2 (ob_other hl.ne7)
    simpa using this
end
def BInv (X : Nat -> Bool) (w0 : World) (bo bu bc bd bs B0 c : Nat) (oo : Option Addr) (n oc : Nat) (ov : Value) (z N : Mat) (done : List (List Int)) (W : World) : Prop :=
  ∃ (cnt : Nat) (dv : Value) (us : Mat), BSt X w0 bo bu bc bd bs B0 c oo n oc ov z N cnt dv us W /\ Sofar c z cnt us /\ BM uB us /\ (∀ r ∈ us, r.length = c) /\ ∀ s ∈ done, Tried c (vecs z) (vecs N) cnt (s.map Int.toNat)
theorem BInv.own {X : Nat -> Bool} {w0 W W' : World} {bo bu bc bd bs B0 c : Nat} {oo : Option Addr} {n oc : Nat} {ov : Value} {z N : Mat} {done : List (List Int)} (h : BInv X w0 bo bu bc bd bs B0 c oo n oc ov z N done W) (hl : Lay w0.heap.size bo bu bc bd bs B0) (hE : ExtX (ownB B0) W W') : BInv X w0 bo bu bc bd bs B0 c oo n oc ov z N done W' := by
  obtain ⟨cnt, dv, us, h1, h2⟩ := h
  exact ⟨cnt, dv, us, h1.own hl hE, h2⟩
theorem keep_ext {B0 : Nat} {Y : Nat -> Bool} {W W' : World} (hE : ExtX Y W W') (hY : ∀ k, Y k = true -> ownB B0 k = false) (hB : B0 + 6 <= W.heap.size) : Keep B0 W W' := ⟨hE.size, fun k hk => hE.block k (by simp [ownB] at hk; omega) (by
  cases h : Y k
  · rfl
  · rw [hY k h] at hk; simp at hk)⟩
theorem Keep.trans {B0 : Nat} {A B C : World} (h : Keep B0 A B) (k : Keep B0 B C) : Keep B0 A C := ⟨Nat.le_trans h.1 k.1, fun i hi => (k.2 i hi).trans (h.2 i hi)⟩
end Go.Proofs.YthipmbmjodhiiaaGreat
namespace Go.Lin
open Go.Lim Go.Rep Go.Proofs.YthipmbmjodhiiaaGreat
theorem formedB_of {n c : Nat} {m : Mat} (hs : Shp n c m) (hn : n <= 96) (hc : 1 <= c) (hc2 : c <= 96) (h0 : 0 < n) : formedB m = true /\ colsL m = c := by
  have hcol : colsL m = c := by
    unfold colsL
    rw [List.getD_eq_getElem?_getD, List.getElem?_eq_getElem (by rw [hs.1]; exact h0)]
    exact hs.2 _ (List.getElem_mem _)
  refine ⟨formedB_true.2 ⟨by rw [hs.1]; exact hn, fun i hi => ?_⟩, hcol⟩
  rw [hcol, hs.2 _ (List.getElem_mem _)]
  exact ⟨hc, hc2, rfl⟩
end Go.Lin
namespace Go.Proofs.YthipmbmjodhiiaaGreat
open Go.RowKit Go.Rep Go.Lim Go.Lin
theorem lit_rat1 (X : Nat -> Bool) (w : World) (s : Bool) (a : Option Addr) (n c : Nat) (d : Option Addr) (k e : Nat) (x : Rat) (t : TypeId) (hX : HX X w) (h : QC (mk X w) (.agg #[.bool s, .slice a n c, .slice d k e]) x) :
    OL QC 3 X w.heap.size t (w.alloc (.cells #[.bool s, .slice a n c, .slice d k e] t)) (some ⟨w.heap.size, 0, none⟩) 1 [x] :=
  OL.lit QC.elem hX (Nat.le_refl _) [.agg #[.bool s, .slice a n c, .slice d k e]] [x] _ (by simp [cellsL, Value.cells]) rfl (fun i hi _ => by
    have : i = 0 := by simpa using hi
    subst this; exact h) (by simp)
theorem BM.sub {B : Nat} {m l : List (List Rat)} (h : BM B m) (hs : ∀ r ∈ l, r ∈ m) : BM B l := fun r hr => h r (hs r hr)
end Go.Proofs.YthipmbmjodhiiaaGreat
namespace Go.Proofs.YthipmbmjodhiiaaGreat
open Go.RowKit Go.Rep Go.Lim
def NumR : Mem -> Value -> Nat -> Prop := fun h u n => ∃ ao cap l, u = .slice ao l.length cap /\ l.length <= cap /\ Canon l n /\ Sl (NatIn .u32) 1 h ao l
theorem NumR.mono : Mono NumR := by
  rintro h h' u x hl ⟨ao, cap, l, rfl, h1, h2, h3⟩
  exact ⟨ao, cap, l, rfl, h1, h2, h3.mono (NatIn.mono _) hl⟩
theorem NumR.one : OneCell NumR := by rintro h u x ⟨ao, cap, l, rfl, _⟩; rfl
theorem NumR.elem : Elem NumR 1 := ⟨NumR.mono, by rintro h u x ⟨ao, cap, l, rfl, _⟩; rfl, by rintro h u x ⟨ao, cap, l, rfl, _⟩ c hc; simp [cellsL, Value.cells] at hc; subst hc; rfl, Nat.one_pos⟩
theorem NumR.zero (h : Mem) : NumR h (.slice none 0 0) 0 := ⟨none, 0, [], rfl, by simp, Canon.nil, Sl.nil _ _ _ _⟩
end Go.Proofs.YthipmbmjodhiiaaGreat
namespace Go.Proofs.YthipmbmjodhiiaaGreat
open Go.RowKit Go.Rep Go.Lim
end Go.Proofs.YthipmbmjodhiiaaGreat
