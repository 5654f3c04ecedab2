/- halfspace: Depths; reference 25: Depths; law 25: HalfspaceAll. Conditions: numbers of few digits. -/
import Derived.Test.YthipmbmjodhiiaaGreatHaM
namespace Go.Lin
open Go.Lim Go.Rep
noncomputable def depsL (p : Mat) : List Nat := if ptsB p then p.map (depV p) else []
theorem depsL_no {p : Mat} (h : ptsB p = false) : depsL p = [] := by unfold depsL; rw [h]; rfl
theorem depsL_yes {p : Mat} (h : ptsB p = true) : depsL p = p.map (depV p) := by unfold depsL; rw [h]; rfl
end Go.Lin
namespace Go.Proofs.YthipmbmjodhiiaaGreat
open Go.RowKit Go.Rep Go.Lim Go.Lin
def NsEOut (w : World) (l : List Nat) (c : Int) (e : Ending) (w' : World) : Prop := Ext w w' /\ ∃ (ao : Option Addr) (ca : Nat), e = .returned (.tuple #[.slice ao l.length ca, .int .i64 c]) /\ Sl (NatIn .i64) 1 (mk noY w') ao l
set_option maxRecDepth 100000 in
set_option maxHeartbeats 800000 in
theorem hdepths_any (w : World) (u : Value) (p : Mat) (B : Nat) (hu : MV (mk noY w) u p) (hp : p.length <= 1000) (hpB : BM B p) (hB : 1 <= B) (hBB : B <= 3000) :
  Calls Tryz.prog 25 #[u] w (NsEOut w (depsL p) (okE (ptsB p))) := by
 have hpt := epoints_any noY w u p hu (by omega)
 skip
 cases hok : ptsB p
 ·have hv := hid (depsL_no hok)
  rw [hok] at hpt
  clear hok
  go_enter Tryz.func25, Tryz.ntmps25
  go_wp2_with fail
  refine hpt.mono ?_
  rintro e w1 ⟨rfl, rfl⟩
  clear hpt
  go_wp2_with fail
  go_ret2
  exact ⟨ExtX.refl _, none, 0, by rw [hv.out]; rfl, by rw [hv.out]; exact Sl.nil _ _ _ _⟩
 have hv := hid (depsL_yes hok)
 have hrow := hid (ptsB_row hok)
 rw [hok] at hpt
 have hdp := hid (fun w' um y (h1 : MV (mk noY w') um p) (uy : Value) (h2 : RV (mk noY w') uy y) (h3 : BR B y) => hdepth_any noY w' um uy p y B (hnoX w') h1 h2 hp hpB h3 hB hBB)
 have hpB' := hid hpB
 have hu0 := hu
 obtain ⟨ua, uca, rfl, huca, hua⟩ := hu
 have hhu := hua.hd
 obtain ⟨M, hM⟩ : ∃ M, p.map (depV p) = M := ⟨_, rfl⟩
 obtain ⟨n, hn⟩ : ∃ n, p.length = n := ⟨_, rfl⟩
 have hMl : Hid (M.length = n) := hid (by rw [<- hM, List.length_map, hn])
 have hMi : Hid (∀ i (hi : i < p.length) (h : i < M.length), M[i] = depV p p[i]) := hid fun i hi h => by subst hM; simp
 have hle : Hid (∀ y, depV p y <= n) := hid fun y => by rw [<- hn]; exact depV_le p y
 have hMl2 : M.length <= n := by rw [hMl.out]; exact Nat.le_refl _
 have hMl3 : n <= M.length := by rw [hMl.out]; exact Nat.le_refl _
 have hn' := hid hn
 rw [hM] at hv
 rw [hn] at hp huca hhu hu0 |-
 rw [hn] at hpt
 clear hM hn hok hpB
 go_enter Tryz.func25, Tryz.ntmps25
 go_wp2_with fail
 refine hpt.mono ?_
 rintro e w1 ⟨hw1, rfl⟩
 have hw2 := hw1.symm
 subst hw2
 clear hpt hw1
 go_wp2_with fail
 go_loopw [4, 14] (fun o cc wr => ∃ (i : Nat) (oo : Option Addr) (co : Nat), cc = .int .i64 i /\ o = .slice oo i co /\ i <= n /\ OL (NatIn .i64) 1 noY w.heap.size 3 wr oo co (M.take i) /\ Ext w wr) (fun _ cc _ => n - (intOf cc).toNat)
 case atStart => exact ⟨0, none, 0, rfl, rfl, Nat.zero_le _, OL.nil _ _ _ _ _ _, ExtX.refl _⟩
 case round =>
  obtain ⟨i, oo, co, rfl, rfl, hi, hO, hE⟩ := hrel
  by_cases hlt : i < n
  ·have hip : i < p.length := by rw [hn'.out]; exact hlt
   have hiM : i < M.length := by omega
   have htk := hid (take_snoc M i hiM)
   have hln := hid (len_take (l := M) (i := i) (by omega))
   have hg := hMi.out i hip hiM
   rw [hg] at htk
   obtain ⟨a1, c1, hX1, hc1, hcl1, hq1⟩ := (hua.mono RV.mono (mk_ext hE)).row i hip
   have k00 := hc1.out noY wr (ExtX.refl _) rfl
   have hd := hdp.out wr (.slice ua n uca) p[i] (mkx MV.mono hu0 hE) (.slice a1 p[i].length c1) ⟨a1, c1, rfl, hcl1, hq1⟩ (hpB'.out _ (List.getElem_mem _))
   have hvl := hle.out p[i]
   obtain ⟨V, hV⟩ : ∃ V, depV p p[i] = V := ⟨_, rfl⟩
   rw [hV] at htk hd hvl
   obtain ⟨yl, hyl⟩ : ∃ yl, p[i].length = yl := ⟨_, rfl⟩
   obtain ⟨C, hC⟩ : ∃ C, okE (depOk p p[i]) = C := ⟨_, rfl⟩
   rw [hyl] at k00 hd
   rw [hC] at hd
   clear hg hc1 hq1 hV hyl hC hcl1
   go_wp2_with (with_reducible refine up_ix1 slRats (by omega) (by assumption) ?_)
   refine hd.mono ?_
   rintro e w5 ⟨hE5, rfl⟩
   have hO5 := hO.ext0 (NatIn.elem _) hE5
   have hb5 := (hE.trans hE5).size
   clear hd k00
   go_wp2_with (at_builtin; refine st_append1n (l := M.take i) slInt rfl (NatIn.elem .i64) hb5 (hnoX w5) i hln.out rfl rfl hO5 (.int .i64 (V : Int)) V rfl rfl (by omega) (by omega) ?_; intro oo2 co2 w7 hO7 hE7 hor)
   have hE8 := (hE.trans hE5).own hO5 (Nat.le_refl _) hE7
   rw [htk.out] at hO7
   go_roundw
   case rel => exact ⟨i + 1, oo2, co2, by go_num, by go_num, by omega, hO7, hE8⟩
   case measure => simp [intOf]; omega
  ·have hil : i = n := by omega
   subst hil
   rw [List.take_of_length_le (by omega)] at hO
   have hs := hO.sl (NatIn.elem _)
   go_wp2_with fail
   go_ret2
   exact ⟨hE, oo, co, by rw [hv.out, hMl.out]; rfl, by rw [hv.out]; exact hs⟩
set_option maxRecDepth 100000 in
set_option maxHeartbeats 800000 in
theorem rdepths_any (w : World) (u : Value) (p : Mat) (B : Nat) (hu : MV (mk noY w) u p) (hp : p.length <= 1000) (hpB : BM B p) (hB : 1 <= B) (hBB : B <= 3000) :
  Calls Tryz.prog 26 #[u] w (NsEOut w (depsL p) (okE (ptsB p))) := by
 have hpt := rshape_any QV.mono noY w u p hu (by omega)
 unfold ShOut at hpt
 cases hok : ptsB p
 ·have hv := hid (depsL_no hok)
  rw [hok] at hpt
  clear hok
  go_enter Tryz.func26, Tryz.ntmps26
  go_wp2_with fail
  refine hpt.mono ?_
  rintro e w1 ⟨hE1, a, b, rfl, hab⟩
  clear hpt
  go_wp2_with fail
  go_ret2
  exact ⟨hE1, none, 0, by rw [hv.out]; rfl, by rw [hv.out]; exact Sl.nil _ _ _ _⟩
 have hv := hid (depsL_yes hok)
 have hrow := hid (ptsB_row hok)
 rw [hok] at hpt
 have hdp := hid (fun w' um y (h1 : MV (mk noY w') um p) (uy : Value) (h2 : RV (mk noY w') uy y) (h3 : BR B y) => rdepth_any noY w' um uy p y B (hnoX w') h1 h2 hp hpB h3 hB hBB)
 have hpB' := hid hpB
 have hu0 := hu
 obtain ⟨ua, uca, rfl, huca, hua⟩ := hu
 have hhu := hua.hd
 obtain ⟨M, hM⟩ : ∃ M, p.map (depV p) = M := ⟨_, rfl⟩
 obtain ⟨n, hn⟩ : ∃ n, p.length = n := ⟨_, rfl⟩
 have hMl : Hid (M.length = n) := hid (by rw [<- hM, List.length_map, hn])
 have hMi : Hid (∀ i (hi : i < p.length) (h : i < M.length), M[i] = depV p p[i]) := hid fun i hi h => by subst hM; simp
 have hle : Hid (∀ y, depV p y <= n) := hid fun y => by rw [<- hn]; exact depV_le p y
 have hMl2 : M.length <= n := by rw [hMl.out]; exact Nat.le_refl _
 have hMl3 : n <= M.length := by rw [hMl.out]; exact Nat.le_refl _
 have hn' := hid hn
 rw [hM] at hv
 rw [hn] at hp huca hhu hu0 |-
 rw [hn] at hpt
 clear hM hn hok hpB
 go_enter Tryz.func26, Tryz.ntmps26
 go_wp2_with fail
 refine hpt.mono ?_
 rintro e w1 ⟨hE1, a, b, rfl, hab⟩
 clear hpt
 go_wp2_with fail
 go_loopw [7, 22] (fun o cc wr => ∃ (i : Nat) (oo : Option Addr) (co : Nat), cc = .int .i64 i /\ o = .slice oo i co /\ i <= n /\ OL (NatIn .i64) 1 noY w.heap.size 3 wr oo co (M.take i) /\ Ext w wr) (fun _ cc _ => n - (intOf cc).toNat)
 case atStart => exact ⟨0, none, 0, rfl, rfl, Nat.zero_le _, OL.nil _ _ _ _ _ _, hE1⟩
 case round =>
  obtain ⟨i, oo, co, rfl, rfl, hi, hO, hE⟩ := hrel
  by_cases hlt : i < n
  ·have hip : i < p.length := by rw [hn'.out]; exact hlt
   have hiM : i < M.length := by omega
   have htk := hid (take_snoc M i hiM)
   have hln := hid (len_take (l := M) (i := i) (by omega))
   have hg := hMi.out i hip hiM
   rw [hg] at htk
   obtain ⟨a1, c1, hX1, hc1, hcl1, hq1⟩ := (hua.mono RV.mono (mk_ext hE)).row i hip
   have k00 := hc1.out noY wr (ExtX.refl _) rfl
   have hd := hdp.out wr (.slice ua n uca) p[i] (mkx MV.mono hu0 hE) (.slice a1 p[i].length c1) ⟨a1, c1, rfl, hcl1, hq1⟩ (hpB'.out _ (List.getElem_mem _))
   have hvl := hle.out p[i]
   obtain ⟨V, hV⟩ : ∃ V, depV p p[i] = V := ⟨_, rfl⟩
   rw [hV] at htk hd hvl
   obtain ⟨yl, hyl⟩ : ∃ yl, p[i].length = yl := ⟨_, rfl⟩
   obtain ⟨C, hC⟩ : ∃ C, okE (depOk p p[i]) = C := ⟨_, rfl⟩
   rw [hyl] at k00 hd
   rw [hC] at hd
   clear hg hc1 hq1 hV hyl hC hcl1
   go_wp2_with (with_reducible refine up_ix1 slRats (by omega) (by assumption) ?_)
   refine hd.mono ?_
   rintro e w5 ⟨hE5, rfl⟩
   have hO5 := hO.ext0 (NatIn.elem _) hE5
   have hb5 := (hE.trans hE5).size
   clear hd k00
   go_wp2_with (at_builtin; refine st_append1n (l := M.take i) slInt rfl (NatIn.elem .i64) hb5 (hnoX w5) i hln.out rfl rfl hO5 (.int .i64 (V : Int)) V rfl rfl (by omega) (by omega) ?_; intro oo2 co2 w7 hO7 hE7 hor)
   have hE8 := (hE.trans hE5).own hO5 (Nat.le_refl _) hE7
   rw [htk.out] at hO7
   go_roundw
   case rel => exact ⟨i + 1, oo2, co2, by go_num, by go_num, by omega, hO7, hE8⟩
   case measure => simp [intOf]; omega
  ·have hil : i = n := by omega
   subst hil
   rw [List.take_of_length_le (by omega)] at hO
   have hs := hO.sl (NatIn.elem _)
   go_wp2_with fail
   go_ret2
   exact ⟨hE, oo, co, by rw [hv.out, hMl.out]; rfl, by rw [hv.out]; exact hs⟩
set_option maxRecDepth 100000 in
set_option maxHeartbeats 800000 in
theorem hall_any (lo : Option Addr) (l : List Int) (cl : Nat) (w : World) (hl : Sl (IntIn .i64) 1 w.cell? lo l) (hcl : l.length <= cl) (hlb : l.length <= 9223372036854775807) :
  Calls Tryz.prog 4 #[.slice lo l.length cl] w (BOut w true) := by
 go_enter Tryz.func4, Tryz.ntmps4
 go_wp2_with fail
 refine (tnew_any lo l cl w hl hcl hlb).mono ?_
 rintro e w1 ⟨rfl, hE1, ht1, hsz1⟩
 have hX1 : HX (tbm w.heap.size) w1 := fun k hk => by
  have : k = w.heap.size := by simpa [tbm] using hk
  omega
 have hfin := hid (fun w2 (h : ExtX (tbm w.heap.size) w1 w2) => (hE1.then_ h fun i hi _ => tbm_ne (by omega) : Ext w w2))
 obtain ⟨tb, htb⟩ : ∃ tb, w.heap.size = tb := ⟨_, rfl⟩
 rw [htb] at ht1 hX1 hfin |-
 clear hE1 hsz1 htb hl
 go_wp2_with fail
 refine (tany_any (tbm tb) tb 6 w1 ht1 hX1 (by decide) (by decide)).mono ?_
 rintro e w2 ⟨hE2, ht2, v2, p, rfl, hp, hpB, hpl, hpr⟩
 have hF2 := hfin.out w2 hE2
 have hp0 : MV (mk noY w2) v2 p := MV.mono _ _ _ _ (mk_sub fun k _ hk => by simp [noY] at hk) hp
 have hp65 : p.length <= 1000 := by omega
 have hD := hid (fun w' (h : MV (mk noY w') v2 p) => hdepths_any w' v2 p 510 h hp65 hpB (by decide) (by decide))
 have hR := hid (fun w' (h : MV (mk noY w') v2 p) => rdepths_any w' v2 p 510 h hp65 hpB (by decide) (by decide))
 have hno := hid (fun (h : 10 < p.length) => (by
  cases hpt : ptsB p
  ·rfl
  ·have := (ptsB_true.1 hpt).2.1
   omega : ptsB p = false))
 obtain ⟨vo, vc, rfl, hvc, hvs⟩ := hp0
 obtain ⟨n, hn⟩ : ∃ n, p.length = n := ⟨_, rfl⟩
 have hp0 : MV (mk noY w2) (.slice vo n vc) p := ⟨vo, vc, by rw [hn], hvc, hvs⟩
 have hln : Hid ((depsL p).length <= 1000) := hid (by unfold depsL; split <;> simp; omega)
 rw [hn] at hD hR hno hpl |-
 obtain ⟨DL, hDL⟩ : ∃ DL, depsL p = DL := ⟨_, rfl⟩
 obtain ⟨C, hC⟩ : ∃ C, okE (ptsB p) = C := ⟨_, rfl⟩
 rw [hDL, hC] at hD hR
 rw [hDL] at hln
 clear ht2 hE2 ht1 hX1 hfin hvs hp hpB hpr hn hDL hvc
 by_cases h10 : 10 < n
 ·have hC6 : C = 6 := by rw [<- hC, hno.out h10]; rfl
  subst hC6
  go_wp2_with fail
  refine (hD.out w2 hp0).mono ?_
  rintro e w3 ⟨hE3, ao, ca, rfl, hs⟩
  clear hD
  go_wp2_with fail
  refine (awake25_any w3).mono ?_
  rintro e w4 ⟨hE4, rfl⟩
  go_wp2_with fail
  go_ret
  exact ⟨hF2.trans (hE3.trans hE4), rfl⟩
 ·go_wp2_with fail
  refine (hD.out w2 hp0).mono ?_
  rintro e w3 ⟨hE3, ao, ca, rfl, hs⟩
  have hr3 := hR.out w3 (mkx MV.mono hp0 hE3)
  clear hD
  go_wp2_with fail
  refine hr3.mono ?_
  rintro e w4 ⟨hE4, bo, cb, rfl, hs2⟩
  have hs3 := hs.mono (NatIn.mono _) (mk_ext hE4)
  have hcc : (C == C) = true := beqT rfl
  have hsm := rsamei_any noY ao bo DL DL ca cb w4 hs3 hs2 (by have := hln.out; omega)
  rw [show (DL == DL) = true from beq_self_eq_true DL] at hsm
  clear hr3
  go_wp2_with fail
  refine hsm.mono ?_
  rintro e w5 ⟨rfl, m, rfl⟩
  clear hsm
  go_wp2_with fail
  refine (awake25_any _).mono ?_
  rintro e w6 ⟨hE6, rfl⟩
  go_wp2_with fail
  go_ret
  exact ⟨hF2.trans (hE3.trans (hE4.trans (((ExtX.refl w4).drewN m).trans hE6))), rfl⟩
end Go.Proofs.YthipmbmjodhiiaaGreat
