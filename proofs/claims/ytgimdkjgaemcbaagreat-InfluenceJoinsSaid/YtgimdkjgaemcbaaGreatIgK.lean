/- Parts of a proof: each theorem states what it proves, and its conditions. -/
import Derived.Test.YtgimdkjgaemcbaaGreatIgJ
import Derived.WalkKit
import Derived.ProofKit
import Derived.OpenShut
import Derived.ShutString
import Derived.ChangeOld
import Derived.Below
import Derived.Deep.Slices
import Derived.Deep.Fields
import Derived.ChangeSame
import Derived.Test.YtgimdkjgaemcbaaGreatRows
import Derived.JoinedOf
namespace Go.Lin
open Go.Lim Go.Rep
def intQ (l : List Int) : List Rat := l.map fun i : Int => (i : Rat)
theorem intQ_snoc (l : List Int) (i : Nat) (h : i < l.length) : intQ (l.take (i + 1)) = intQ (l.take i) ++ [((l[i] : Int) : Rat)] := by
  unfold intQ
  rw [List.take_succ_eq_append_getElem h, List.map_append]; rfl
end Go.Lin
namespace Go.Proofs.YtgimdkjgaemcbaaGreat
open Go.RowKit Go.Rep Go.Lim Go.Lin
set_option maxRecDepth 100000 in
set_option maxHeartbeats 1600000 in
theorem ints34_any (w : World) (lo : Option Addr) (l : List Int) (cl : Nat) (hs : Sl (IntIn .i64) 1 (mk noY w) lo l) (hl : l.length <= 1000) (hb : ∀ x ∈ l, -1000 <= x /\ x <= 1000) :
    Calls Tryz.prog 82 #[.slice lo l.length cl] w (fun e w' => Ext w w' /\ ∃ ao cap, e = .returned (.slice ao l.length cap) /\ l.length <= cap /\ Sl QC 3 (mk noY w') ao (intQ l)) := by
  have hh := hs.hd
  have hb' := hid hb
  obtain ⟨n, hn⟩ : ∃ n, l.length = n := ⟨_, rfl⟩
  have hn' := hid hn
  rw [hn] at hh hl |-
  clear hb hn
  go_enter Tryz.func82, Tryz.ntmps82
  go_wp2_with fail
  go_loopw [3, 8] (fun o k wr => ∃ (i : Nat) (oo : Option Addr) (co : Nat), k = .int .i64 i /\ o = .slice oo i co /\ i <= n /\ OL QC 3 noY w.heap.size 38 wr oo co (intQ (l.take i)) /\ Ext w wr) (fun _ k _ => n - (intOf k).toNat)
  case atStart => exact ⟨0, none, 0, rfl, rfl, Nat.zero_le _, OL.nil _ _ _ _ _ _, ExtX.refl _⟩
  case round =>
    obtain ⟨i, oo, co, rfl, rfl, hi, hO, hE⟩ := hrel
    by_cases hlt : i < n
    · have hil : i < l.length := by rw [hn'.out]; exact hlt
      have hln : Hid ((intQ (l.take i)).length = i) := hid (by unfold intQ; rw [List.length_map, List.length_take]; have := hn'.out; omega)
      have hsn := hid (intQ_snoc l i hil)
      have hk := (hs.mono (IntIn.mono _) (mk_ext hE)).int i hil
      have hr := hid (hb'.out l[i] (List.getElem_mem hil))
      obtain ⟨x, hx⟩ : ∃ x, l[i] = x := ⟨_, rfl⟩
      rw [hx] at hk hr hsn
      have hXu : HX (un noY oo) wr := hO.unX (HX.none wr)
      have hr1 := hr.out
      clear hx
      go_wp2_with (with_reducible refine up_ix1 slInt (by omega) (by assumption) ?_)
      refine (rqfrom (un noY oo) wr x hXu (by omega) (by omega)).mono ?_
      rintro e w2 ⟨hE2, u6, rfl, hu6⟩
      obtain ⟨s6, a6, n6, c6, d6, k6, e6, rfl⟩ := hu6.shape
      have hO2 := hO.ext0 QC.elem hE2
      have hE3 := hE.trans hE2
      have hbase := hE3.size
      clear hO hk hr1
      go_wp2_with (at_builtin; refine st_append1n (l := intQ (l.take i)) slRat rfl QC.elem hbase (HX.none w2) i hln.out rfl rfl hO2 (.agg #[.bool s6, .slice a6 n6 c6, .slice d6 k6 e6]) (x : Rat) rfl hu6 (by omega) (by omega) ?_; intro oo2 co2 w7 hO7 hE7 hor)
      have hE8 := hE3.own hO2 (Nat.le_refl _) hE7
      rw [<- hsn.out] at hO7
      go_roundw
      case rel => exact ⟨i + 1, oo2, co2, by go_num, by go_num, by omega, hO7, hE8⟩
      case measure => simp [intOf]; omega
    · obtain rfl : i = n := by omega
      have hc := hO.lenCap
      have hs2 := hO.sl QC.elem
      rw [show l.take i = l from List.take_of_length_le (by rw [hn'.out]; exact Nat.le_refl _)] at hc hs2
      have hil : (intQ l).length = i := by unfold intQ; rw [List.length_map, hn'.out]
      rw [hil] at hc
      go_wp2_with fail
      go_ret
      exact ⟨hE, oo, co, rfl, hc, hs2⟩
theorem ints34_lit (w : World) (l : List Int) (arr : Array Value) (e : TypeId) (len : Nat) (harr : arr = (l.map (Value.int .i64)).toArray) (hlen : len = l.length) (hl : l.length <= 1000) (hb : ∀ x ∈ l, -1000 <= x /\ x <= 1000) :
    Calls Tryz.prog 82 #[.slice (some ⟨w.heap.size, 0, none⟩) len len] (w.alloc (.cells arr e)) (fun e w' => Ext w w' /\ ∃ ao cap, e = .returned (.slice ao len cap) /\ len <= cap /\ Sl QC 3 (mk noY w') ao (intQ l)) := by
  have hL := (lit_sl noY w l e arr harr (HX.none w) hl).sl (IntIn.elem .i64)
  subst hlen
  exact (ints34_any (w.alloc (.cells arr e)) _ l l.length hL hl hb).mono fun e w' ⟨h1, h2⟩ => ⟨((ExtX.refl w).alloc _).trans h1, h2⟩
set_option maxRecDepth 100000 in
set_option maxHeartbeats 1600000 in
theorem awake34_any (w : World) : Calls Tryz.prog 20 #[] w (BOut w true) := by
  have hi1 : intQ [1, 3] = [1, 3] := by decide +kernel
  have hi2 : intQ [0, 0] = [0, 0] := by decide +kernel
  have hcrv := hid fun w1 ao cap (hc : 2 <= cap) (hs : Sl QC 3 (mk noY w1) ao [1, 3]) => (by
    have := icurve_ok noY w1 (.slice ao 2 cap) 2 0 [1, 3] 2 (HX.none w1) ⟨ao, cap, rfl, hc, hs.qv fun q hq => by
      have : q = 1 \/ q = 3 := by simpa using hq
      rcases this with rfl | rfl <;> decide +kernel⟩ ⟨by decide, by decide, by decide, by decide⟩ ⟨by decide, by decide⟩ (by decide) (fun q hq => by
      have : q = 1 \/ q = 3 := by simpa using hq
      rcases this with rfl | rfl <;> decide +kernel) (by decide)
    rw [crv_w] at this
    exact this : Calls Tryz.prog 17 #[.agg #[.int .i64 2, .int .i64 0], .slice ao 2 cap] w1 (fun e w' => Ext w1 w' /\ ∃ ao cap, e = .returned (.tuple #[.slice ao 3 cap, .int .i64 0]) /\ 3 <= cap /\ Sl LinR 14 (mk noY w') ao crvW))
  have hsen := hid fun w1 ao cap u (hc : 2 <= cap) (hs : Sl QC 3 (mk noY w1) ao [0, 0]) (hu : QC (mk noY w1) u 3) => (by
    have := isens noY w1 (.slice ao 2 cap) u 1 0 [0, 0] 3 2 (HX.none w1) ⟨ao, cap, rfl, hc, hs.qv fun q hq => by
      have : q = 0 := by simpa using hq
      rcases this with rfl; decide +kernel⟩ (hu.qv (by decide +kernel)) ⟨by decide, by decide, by decide, by decide⟩ ⟨by decide, by decide⟩ (by decide) (fun q hq => by
      have : q = 0 := by simpa using hq
      rcases this with rfl; decide +kernel) (by decide +kernel) (by decide)
    have e1 : okQ 0 (senL 1 0 [0, 0] 3) = 3 := by
      unfold okQ senL
      rw [est_w5, est_w6]; decide +kernel
    unfold QEo at this
    rw [e1] at this
    exact this : Calls Tryz.prog 83 #[.agg #[.int .i64 1, .int .i64 0], .slice ao 2 cap, u] w1 (fun e w' => Ext w1 w' /\ ∃ u, e = .returned (.tuple #[u, .int .i64 0]) /\ QC (mk noY w') u 3))
  go_enter Tryz.func20, Tryz.ntmps20
  go_wp2_with fail
  refine (ints34_lit w [1, 3] _ _ 2 rfl rfl (by decide) (by decide)).mono ?_
  rintro e w1 ⟨hE1, ao, cap, rfl, hcap, hs1⟩
  rw [hi1] at hs1
  have hcv := hcrv.out w1 ao cap hcap hs1
  go_wp2_with fail
  refine hcv.mono ?_
  rintro e w2 ⟨hE2, co, cc, rfl, hcc, hs2⟩
  have hE12 := hE1.trans hE2
  clear hcv hs1 hE1 hE2 hcap
  go_wp2_with fail
  refine (ints34_lit w2 [0, 0] _ _ 2 rfl rfl (by decide) (by decide)).mono ?_
  rintro e w3 ⟨hE3, bo, bc, rfl, hbc, hs3⟩
  rw [hi2] at hs3
  go_wp2_with fail
  refine (rqfrom noY w3 3 (HX.none w3) (by decide) (by decide)).mono ?_
  rintro e w4 ⟨hE4, u4, rfl, hu4⟩
  have h33 : Hid ((((3 : Int) : Rat)) = 3) := hid (by decide +kernel)
  rw [h33.out] at hu4
  obtain ⟨s4, a4, n4, c4, d4, k4, e4, rfl⟩ := hu4.shape
  have hse := hsen.out w4 bo bc _ hbc (hs3.mono QC.mono (mk_ext hE4)) hu4
  go_wp2_with fail
  refine hse.mono ?_
  rintro e w5 ⟨hE5, u5, rfl, hu5⟩
  obtain ⟨st, at_, nt, ct, dt, kt_, et, rfl⟩ := hu5.shape
  have bx := Bx.new w5 #[.bool false, .slice none 0 0, .slice none 0 0] 38
  have hE25 := hE3.trans (hE4.trans hE5)
  clear hse hs3 hbc hE3 hE4 hE5 hu4
  go_upto_region 3 with ((with_reducible show wpList _ _ _ (⟨_, .store 38 _ _, _, _, _, _⟩ :: _) _ _); refine st_storeBox stRat rfl rfl bx rfl rfl (one3 _ _ _ _ _ _ _) ?_; intro w6 r1 r2)
  have hE6 : Ext w5 w6 := ExtX.box ((ExtX.refl w5).alloc _) r2 (Nat.le_refl _)
  have hu6 := mkx QC.mono hu5 hE6
  obtain ⟨bs, hbs⟩ : ∃ bs, w5.heap.size = bs := ⟨_, rfl⟩
  rw [hbs] at r1 |-
  have hE26 := hE25.trans hE6
  have hs6 := hs2.mono LinR.mono (mk_ext hE26)
  have hEw6 := hE12.trans hE26
  have hh := hs6.hd
  have hEd : Ext w6 w6.drew := (ExtX.refl w6).drew
  obtain ⟨gp, op, sp1, ap1, np1, cp1, dp1, kp1, ep1, sp2, ap2, np2, cp2, dp2, kp2, ep2, sp3, ap3, np3, cp3, dp3, kp3, ep3, sp4, ap4, np4, cp4, dp4, kp4, ep4, hgp, _, hp1, hp2, hp3, hp4, hp5, qp1, qp2, qp3, qp4⟩ := hs6.lin 0 (by decide)
  obtain ⟨gq, oq, sq1, aq1, nq1, cq1, dq1, kq1, eq1, sq2, aq2, nq2, cq2, dq2, kq2, eq2, sq3, aq3, nq3, cq3, dq3, kq3, eq3, sq4, aq4, nq4, cq4, dq4, kq4, eq4, hgq, _, hq1, hq2, hq3, hq4, hq5, qq1, qq2, qq3, qq4⟩ := hs6.lin 1 (by decide)
  obtain ⟨gr, oR, sr1, ar1, nr1, cr1, dr1, kr1, er1, sr2, ar2, nr2, cr2, dr2, kr2, er2, sr3, ar3, nr3, cr3, dr3, kr3, er3, sr4, ar4, nr4, cr4, dr4, kr4, er4, hgr, _, hr1, hr2, hr3, hr4, hr5, qr1, qr2, qr3, qr4⟩ := hs6.lin 2 (by decide)
  have qB : QC (mk noY w6.drew) (.agg #[.bool sq4, .slice aq4 nq4 cq4, .slice dq4 kq4 eq4]) 1 := mkx QC.mono qq4 hEd
  have qA : QC (mk noY w6.drew) (.agg #[.bool sr3, .slice ar3 nr3 cr3, .slice dr3 kr3 er3]) 3 := mkx QC.mono qr3 hEd
  have qS := mkx QC.mono hu6 hEd
  have i0 : ∀ W, (Instr.indexAt 30 (.slice co 3 cc) (.int .i64 0)).run Tryz.prog W = .ok (.pointer (some ⟨gp, op, none⟩)) W := by rw [<- hgp]; exact run_indexAt_adr slLin co 3 cc .i64 0 hh (by decide)
  have i1 : ∀ W, (Instr.indexAt 30 (.slice co 3 cc) (.int .i64 1)).run Tryz.prog W = .ok (.pointer (some ⟨gq, oq, none⟩)) W := by rw [<- hgq]; exact run_indexAt_adr slLin co 3 cc .i64 1 hh (by decide)
  have i2 : ∀ W, (Instr.indexAt 30 (.slice co 3 cc) (.int .i64 2)).run Tryz.prog W = .ok (.pointer (some ⟨gr, oR, none⟩)) W := by rw [<- hgr]; exact run_indexAt_adr slLin co 3 cc .i64 2 hh (by decide)
  have hwS : w6.drew.cell? ⟨gp, op + 6, none⟩ = some (.bool true) /\ w6.drew.cell? ⟨gr, oR + 7, none⟩ = some (.bool true) /\ w6.drew.cell? ⟨gq, oq + 11, none⟩ = some (.bool sq4) /\ w6.drew.cell? ⟨gq, oq + 12, none⟩ = some (.slice aq4 nq4 cq4) /\ w6.drew.cell? ⟨gq, oq + 13, none⟩ = some (.slice dq4 kq4 eq4) /\ w6.drew.cell? ⟨gr, oR + 8, none⟩ = some (.bool sr3) /\ w6.drew.cell? ⟨gr, oR + 9, none⟩ = some (.slice ar3 nr3 cr3) /\ w6.drew.cell? ⟨gr, oR + 10, none⟩ = some (.slice dr3 kr3 er3) /\ w6.drew.cell? ⟨bs, 0, none⟩ = some (.bool st) /\ w6.drew.cell? ⟨bs, 1, none⟩ = some (.slice at_ nt ct) /\ w6.drew.cell? ⟨bs, 2, none⟩ = some (.slice dt kt_ et) := by
    have z1 := hp3.out noY w6.drew hEd rfl
    have z2 := hr3.out noY w6.drew hEd rfl
    have z3 := hq5.out noY w6.drew hEd rfl
    have z4 := hr4.out noY w6.drew hEd rfl
    exact ⟨z1.1, z2.2, z3.1, z3.2.1, z3.2.2, z4.1, z4.2.1, z4.2.2, hEd.cell (r1.cell 0 rfl), hEd.cell (r1.cell 1 rfl), hEd.cell (r1.cell 2 rfl)⟩
  have h11 : Hid ((((1 : Int) : Rat)) = 1) := hid (by decide +kernel)
  have b1 : Hid (hq (1 : Rat) <= 68719476736) := hid (by decide +kernel)
  have b3 : Hid (hq (3 : Rat) <= 68719476736) := hid (by decide +kernel)
  clear hp1 hp2 hp3 hp4 hp5 hq1 hq2 hq3 hq4 hq5 hr1 hr2 hr3 hr4 hr5 qp1 qp2 qp3 qp4 qq1 qq2 qq3 qq4 qr1 qr2 qr3 qr4 hgp hgq hgr hs6 hs2 hu5 hu6 r1 r2 bx hbs hcc hcrv hsen hi1 hi2 hh
  (try simp only [Act.put])
  refine wp_region_K 44 (fun w' => w'.cell? ⟨gp, op + 6, none⟩ = some (.bool true) /\ w'.cell? ⟨gr, oR + 7, none⟩ = some (.bool true) /\ w'.cell? ⟨gq, oq + 11, none⟩ = some (.bool sq4) /\ w'.cell? ⟨gq, oq + 12, none⟩ = some (.slice aq4 nq4 cq4) /\ w'.cell? ⟨gq, oq + 13, none⟩ = some (.slice dq4 kq4 eq4) /\ w'.cell? ⟨gr, oR + 8, none⟩ = some (.bool sr3) /\ w'.cell? ⟨gr, oR + 9, none⟩ = some (.slice ar3 nr3 cr3) /\ w'.cell? ⟨gr, oR + 10, none⟩ = some (.slice dr3 kr3 er3) /\ w'.cell? ⟨bs, 0, none⟩ = some (.bool st) /\ w'.cell? ⟨bs, 1, none⟩ = some (.slice at_ nt ct) /\ w'.cell? ⟨bs, 2, none⟩ = some (.slice dt kt_ et)) (by kernel_rfl) (by kernel_rfl) hwS (fun hHeld hOnce => ?_)
  refine kt 0 hOnce ?_
  refine kt 1 hOnce ?_
  refine kt 2 hOnce ?_
  refine kt 3 hOnce ?_
  refine kt 4 hOnce ?_
  refine kt 5 hOnce ?_
  refine kt 6 hOnce ?_
  refine kt 7 hOnce ?_
  refine kt 8 hOnce ?_
  refine kt 9 hOnce ?_
  refine kt 10 hOnce ?_
  refine kt 11 hOnce ?_
  refine kt 12 hOnce ?_
  refine kt 13 hOnce ?_
  refine kt 14 hOnce ?_
  refine kt 15 hOnce ?_
  refine kt 16 hOnce ?_
  refine kt 17 hOnce ?_
  refine kt 18 hOnce ?_
  refine kt 19 hOnce ?_
  refine kt 20 hOnce ?_
  refine kt 21 hOnce ?_
  refine kt 22 hOnce ?_
  refine kt 23 hOnce ?_
  refine ks 24 (fun K hK => ?_)
  go_simp
  ((with_reducible refine (rqfrom noY w6.drew 1 (HX.none _) (by decide) (by decide)).mono ?_); rintro ee wa ⟨ga, ua, rfl, hua⟩; rw [h11.out] at hua; obtain ⟨s6, a6, n6, c6, d6, k6, e6, rfl⟩ := hua.shape)
  refine kcn hK ⟨ga.cell hHeld.1, ga.cell hHeld.2.1, ga.cell hHeld.2.2.1, ga.cell hHeld.2.2.2.1, ga.cell hHeld.2.2.2.2.1, ga.cell hHeld.2.2.2.2.2.1, ga.cell hHeld.2.2.2.2.2.2.1, ga.cell hHeld.2.2.2.2.2.2.2.1, ga.cell hHeld.2.2.2.2.2.2.2.2.1, ga.cell hHeld.2.2.2.2.2.2.2.2.2.1, ga.cell hHeld.2.2.2.2.2.2.2.2.2.2⟩ (fun hHeld => ?_)
  clear hK K
  refine ks 25 (fun K hK => ?_)
  go_simp
  ((with_reducible refine (rqsame noY wa _ _ 1 1 (mkx QC.mono qB ga) hua b1.out).mono ?_); rintro ee wb ⟨gb, rfl⟩)
  refine kcn hK ⟨gb.cell hHeld.1, gb.cell hHeld.2.1, gb.cell hHeld.2.2.1, gb.cell hHeld.2.2.2.1, gb.cell hHeld.2.2.2.2.1, gb.cell hHeld.2.2.2.2.2.1, gb.cell hHeld.2.2.2.2.2.2.1, gb.cell hHeld.2.2.2.2.2.2.2.1, gb.cell hHeld.2.2.2.2.2.2.2.2.1, gb.cell hHeld.2.2.2.2.2.2.2.2.2.1, gb.cell hHeld.2.2.2.2.2.2.2.2.2.2⟩ (fun hHeld => ?_)
  clear hK K
  have gab := ga.trans gb
  refine kt 26 hOnce ?_
  refine kt 27 hOnce ?_
  refine kt 28 hOnce ?_
  refine kt 29 hOnce ?_
  refine kt 30 hOnce ?_
  refine kt 31 hOnce ?_
  refine ks 32 (fun K hK => ?_)
  go_simp
  ((with_reducible refine (rqfrom noY wb 3 (HX.none _) (by decide) (by decide)).mono ?_); rintro ee wc ⟨gc, uc, rfl, huc⟩; rw [h33.out] at huc; obtain ⟨s7, a7, n7, c7, d7, k7, e7, rfl⟩ := huc.shape)
  refine kcn hK ⟨gc.cell hHeld.1, gc.cell hHeld.2.1, gc.cell hHeld.2.2.1, gc.cell hHeld.2.2.2.1, gc.cell hHeld.2.2.2.2.1, gc.cell hHeld.2.2.2.2.2.1, gc.cell hHeld.2.2.2.2.2.2.1, gc.cell hHeld.2.2.2.2.2.2.2.1, gc.cell hHeld.2.2.2.2.2.2.2.2.1, gc.cell hHeld.2.2.2.2.2.2.2.2.2.1, gc.cell hHeld.2.2.2.2.2.2.2.2.2.2⟩ (fun hHeld => ?_)
  clear hK K
  refine ks 33 (fun K hK => ?_)
  go_simp
  ((with_reducible refine (rqsame noY wc _ _ 3 3 (mkx QC.mono qA (gab.trans gc)) huc b3.out).mono ?_); rintro ee wd ⟨gd, rfl⟩)
  refine kcn hK ⟨gd.cell hHeld.1, gd.cell hHeld.2.1, gd.cell hHeld.2.2.1, gd.cell hHeld.2.2.2.1, gd.cell hHeld.2.2.2.2.1, gd.cell hHeld.2.2.2.2.2.1, gd.cell hHeld.2.2.2.2.2.2.1, gd.cell hHeld.2.2.2.2.2.2.2.1, gd.cell hHeld.2.2.2.2.2.2.2.2.1, gd.cell hHeld.2.2.2.2.2.2.2.2.2.1, gd.cell hHeld.2.2.2.2.2.2.2.2.2.2⟩ (fun hHeld => ?_)
  clear hK K
  have gad := gab.trans (gc.trans gd)
  refine kt 34 hOnce ?_
  refine kt 35 hOnce ?_
  refine kt 36 hOnce ?_
  refine kt 37 hOnce ?_
  refine kt 38 hOnce ?_
  refine kt 39 hOnce ?_
  refine kt 40 hOnce ?_
  refine ks 41 (fun K hK => ?_)
  go_simp
  ((with_reducible refine (rqfrom noY wd 3 (HX.none _) (by decide) (by decide)).mono ?_); rintro ee we ⟨ge, ue, rfl, hue⟩; rw [h33.out] at hue; obtain ⟨s8, a8, n8, c8, d8, k8, e8, rfl⟩ := hue.shape)
  refine kcn hK ⟨ge.cell hHeld.1, ge.cell hHeld.2.1, ge.cell hHeld.2.2.1, ge.cell hHeld.2.2.2.1, ge.cell hHeld.2.2.2.2.1, ge.cell hHeld.2.2.2.2.2.1, ge.cell hHeld.2.2.2.2.2.2.1, ge.cell hHeld.2.2.2.2.2.2.2.1, ge.cell hHeld.2.2.2.2.2.2.2.2.1, ge.cell hHeld.2.2.2.2.2.2.2.2.2.1, ge.cell hHeld.2.2.2.2.2.2.2.2.2.2⟩ (fun hHeld => ?_)
  clear hK K
  refine ks 42 (fun K hK => ?_)
  go_simp
  ((with_reducible refine (rqsame noY we _ _ 3 3 (mkx QC.mono qS (gad.trans ge)) hue b3.out).mono ?_); rintro ee wf ⟨gf, rfl⟩)
  refine kcn hK ⟨gf.cell hHeld.1, gf.cell hHeld.2.1, gf.cell hHeld.2.2.1, gf.cell hHeld.2.2.2.1, gf.cell hHeld.2.2.2.2.1, gf.cell hHeld.2.2.2.2.2.1, gf.cell hHeld.2.2.2.2.2.2.1, gf.cell hHeld.2.2.2.2.2.2.2.1, gf.cell hHeld.2.2.2.2.2.2.2.2.1, gf.cell hHeld.2.2.2.2.2.2.2.2.2.1, gf.cell hHeld.2.2.2.2.2.2.2.2.2.2⟩ (fun hHeld => ?_)
  clear hK K
  refine kt 43 hOnce ?_
  refine kl 44 (fun K hK => ?_)
  go_simp
  refine hK.out _ _ ?_
  clear hK K
  go_wp2_with fail
  go_ret
  exact ⟨hEw6.trans (hEd.trans (gad.trans (ge.trans gf))), rfl⟩
end Go.Proofs.YtgimdkjgaemcbaaGreat
namespace Go.Proofs.YtgimdkjgaemcbaaGreat
open Go.RowKit Go.Rep Go.Lim Go.Lin
set_option maxRecDepth 100000 in
set_option maxHeartbeats 1600000 in
theorem iat (X : Nat -> Bool) (w : World) (u v : Value) (p : Pc) (z : Rat) (hX : HX X w) (hu : LinR (mk X w) u p) (hv : QV (mk X w) v z) (hg : GoodP 1000000000 p) (hzB : hq z <= 1000000000) :
    Calls Tryz.prog 22 #[u, v] w (ROut X w QC (p.a + p.b * z)) := by
  obtain ⟨s1, a1, n1, c1, d1, k1, e1, s2, a2, n2, c2, d2, k2, e2, s3, a3, n3, c3, d3, k3, e3, s4, a4, n4, c4, d4, k4, e4, rfl, q1, q2, q3, q4⟩ := hu
  obtain ⟨s5, a5, n5, c5, d5, k5, e5, rfl⟩ := hv.shape
  obtain ⟨W, hW, hE, b0, b1, b2, hz⟩ := boxes3 w #[.bool s1, .slice a1 n1 c1, .slice d1 k1 e1, .bool s2, .slice a2 n2 c2, .slice d2 k2 e2, .bool p.lo.isNone, .bool p.hi.isNone, .bool s3, .slice a3 n3 c3, .slice d3 k3 e3, .bool s4, .slice a4 n4 c4, .slice d4 k4 e4] #[.bool s5, .slice a5 n5 c5, .slice d5 k5 e5] #[.bool false, .slice none 0 0, .slice none 0 0] 40 38 38
  have hXW : HX (hidB X w.heap.size 3) W := hX.boxes hz
  have hv1 := QV.mono _ _ _ _ (le_boxes (nb := 3) hE) hv
  have hA1 := (QC.mono _ _ _ _ (le_boxes (nb := 3) hE) q3).qv (Nat.le_trans hg.1 (by decide))
  have hB1 := (QC.mono _ _ _ _ (le_boxes (nb := 3) hE) q4).qv (Nat.le_trans hg.2.1 (by decide))
  have hqm : Hid (hq (p.b * z) <= 68719476736) := hid (by have := hq_mul p.b z; have := hg.2.1; omega)
  obtain ⟨b, hb⟩ : ∃ b, w.heap.size = b := ⟨_, rfl⟩
  have hbw : w.heap.size <= b := by omega
  rw [hb] at b0 b1 b2 hz hXW hv1 hA1 hB1
  have hEd : Ext W W.drew := (ExtX.refl W).drew
  have hXd : HX (hidB X b 3) W.drew := hXW.ext hEd
  have hvd := mkx QV.mono hv1 hEd
  have hAd := mkx QV.mono hA1 hEd
  have hBd := mkx QV.mono hB1 hEd
  have hwS : W.drew.cell? ⟨b, 8, none⟩ = some (.bool s3) /\ W.drew.cell? ⟨b, 9, none⟩ = some (.slice a3 n3 c3) /\ W.drew.cell? ⟨b, 10, none⟩ = some (.slice d3 k3 e3) /\ W.drew.cell? ⟨b, 11, none⟩ = some (.bool s4) /\ W.drew.cell? ⟨b, 12, none⟩ = some (.slice a4 n4 c4) /\ W.drew.cell? ⟨b, 13, none⟩ = some (.slice d4 k4 e4) /\ W.drew.cell? ⟨b + 1, 0, none⟩ = some (.bool s5) /\ W.drew.cell? ⟨b + 1, 1, none⟩ = some (.slice a5 n5 c5) /\ W.drew.cell? ⟨b + 1, 2, none⟩ = some (.slice d5 k5 e5) := ⟨hEd.cell (b0.cell 8 rfl), hEd.cell (b0.cell 9 rfl), hEd.cell (b0.cell 10 rfl), hEd.cell (b0.cell 11 rfl), hEd.cell (b0.cell 12 rfl), hEd.cell (b0.cell 13 rfl), hEd.cell (b1.cell 0 rfl), hEd.cell (b1.cell 1 rfl), hEd.cell (b1.cell 2 rfl)⟩
  clear hv hv1 hA1 hB1 q1 q2 q3 q4 hg hzB
  go_enter Tryz.func22, Tryz.ntmps22
  go_upto_region 1 with fail
  (try simp only [Act.put])
  refine wp_region_K 7 (fun w' => w'.cell? ⟨b, 8, none⟩ = some (.bool s3) /\ w'.cell? ⟨b, 9, none⟩ = some (.slice a3 n3 c3) /\ w'.cell? ⟨b, 10, none⟩ = some (.slice d3 k3 e3) /\ w'.cell? ⟨b, 11, none⟩ = some (.bool s4) /\ w'.cell? ⟨b, 12, none⟩ = some (.slice a4 n4 c4) /\ w'.cell? ⟨b, 13, none⟩ = some (.slice d4 k4 e4) /\ w'.cell? ⟨b + 1, 0, none⟩ = some (.bool s5) /\ w'.cell? ⟨b + 1, 1, none⟩ = some (.slice a5 n5 c5) /\ w'.cell? ⟨b + 1, 2, none⟩ = some (.slice d5 k5 e5)) (by kernel_rfl) (by kernel_rfl) hwS (fun hHeld hOnce => ?_)
  refine kt 0 hOnce ?_
  refine kt 1 hOnce ?_
  refine kt 2 hOnce ?_
  refine kt 3 hOnce ?_
  refine kt 4 hOnce ?_
  refine ks 5 (fun K hK => ?_)
  go_simp
  ((with_reducible refine (rqmul (hidB X b 3) W.drew _ _ _ _ hXd hBd hvd).mono ?_); rintro ee wa ⟨ga, ua, rfl, hua⟩; obtain ⟨s6, a6, n6, c6, d6, k6, e6, rfl⟩ := hua.shape)
  refine kcn hK ⟨ga.cell hHeld.1, ga.cell hHeld.2.1, ga.cell hHeld.2.2.1, ga.cell hHeld.2.2.2.1, ga.cell hHeld.2.2.2.2.1, ga.cell hHeld.2.2.2.2.2.1, ga.cell hHeld.2.2.2.2.2.2.1, ga.cell hHeld.2.2.2.2.2.2.2.1, ga.cell hHeld.2.2.2.2.2.2.2.2⟩ (fun hHeld => ?_)
  clear hK K
  refine ks 6 (fun K hK => ?_)
  go_simp
  ((with_reducible refine (rqadd (hidB X b 3) wa _ _ _ _ (hXd.ext ga) (mkx QV.mono hAd ga) (hua.qv hqm.out)).mono ?_); rintro ee wb ⟨gb, ub, rfl, hub⟩; obtain ⟨s7, a7, n7, c7, d7, k7, e7, rfl⟩ := hub.shape)
  refine kcn hK ⟨gb.cell hHeld.1, gb.cell hHeld.2.1, gb.cell hHeld.2.2.1, gb.cell hHeld.2.2.2.1, gb.cell hHeld.2.2.2.2.1, gb.cell hHeld.2.2.2.2.2.1, gb.cell hHeld.2.2.2.2.2.2.1, gb.cell hHeld.2.2.2.2.2.2.2.1, gb.cell hHeld.2.2.2.2.2.2.2.2⟩ (fun hHeld => ?_)
  clear hK K
  have gab := hEd.trans (ga.trans gb)
  have b2b := b2.ext0 gab
  refine kl 7 (fun K hK => ?_)
  (refine step_storeBox rfl rfl stRat rfl rfl b2b rfl rfl (one3 _ _ _ _ _ _ _) ?_; intro wf xf yf)
  refine hK.out _ _ ?_
  clear hK K
  (try simp only [Act.put])
  have h3 := QC.mono _ _ _ _ le_unbox (QC.mono _ _ _ _ (le_store yf (by omega) (by omega)) hub)
  go_wp2_with fail
  exact bodyPost_ret (results_box rfl rfl stRat xf rfl) rfl ⟨ExtX.box (hE.trans gab) yf (by omega), _, rfl, h3⟩
end Go.Proofs.YtgimdkjgaemcbaaGreat
namespace Go.Proofs.YtgimdkjgaemcbaaGreat
open Go.ChangeShapes Go.WideShapes Go.ChangeAt Go.RowKit Go.Rep Go.Deep
section
variable {H : Type} {enc : TypeId × Value -> H} {w : World} {base : Nat} {spare : Nat -> Bool} {held : Bool}
theorem adr_some {x : Addr} {v : Value} (h : w.cell? (x.add 0) = some v) : (∀ j, x.add j = adr (some x) j) /\ ∃ b off, x = ⟨b, off, none⟩ := by
  have hs := World.cell?_spot h
  obtain ⟨b, off, spot⟩ := x
  have hspot : spot = none := by simpa [Addr.add] using hs
  subst hspot
  exact ⟨fun j => by rw [Addr.add_lit]; simp [adr], b, off, rfl⟩
end
end Go.Proofs.YtgimdkjgaemcbaaGreat
namespace Go.Proofs.YtgimdkjgaemcbaaGreat
open Go.ChangeShapes Go.WideShapes Go.ChangeAt Go.RowKit Go.Rep Go.Deep
theorem rng_i64 {n : Int} (h : (Lit.int .i64 n).wf = true) : -9223372036854775808 <= n /\ n <= 9223372036854775807 := by
  unfold Lit.wf at h
  simpa [IntKind.min, IntKind.max, IntKind.signed, IntKind.bits] using h
section
variable {H : Type} {enc : TypeId × Value -> H} {P : Program} {w : World} {base : Nat} {spare : Nat -> Bool} {held : Bool}
theorem ints_wf {fuel : Nat} {v : Value} {x : DataW H × List MemPlace} (h : DataW.trod enc Tryz.prog w base spare held fuel 22 [v] = some x) :
    ∃ (a : Option Addr) (l : List Int) (cap : Nat), v = .slice a l.length cap /\ l.length <= cap /\ l.length <= 9223372036854775807 /\ Sl (IntIn .i64) 1 (mk noY w) a l /\ ∀ x ∈ l, -9223372036854775808 <= x /\ x <= 9223372036854775807 := by
  rw [mk_noY]
  rcases open_ints Tryz.underlying22 Tryz.underlying3 (by kernel_rfl) h with ⟨hcs, _⟩ | ⟨x, len, c, zs, hcs, _, hl, hm, hz, _, hcell, hwf⟩
  · refine ⟨none, [], 0, by simpa using hcs, by simp, by simp, Sl.nil _ _ _ _, by simp⟩
  · have hzl : len <= zs.length := by
      rw [hz]; split <;> omega
    have hlen : (zs.take len).length = len := by simp; omega
    have hmax : c <= 9223372036854775807 := by simpa [maxLen] using hm
    refine ⟨some x, zs.take len, c, by rw [hlen]; simpa using hcs, by omega, by omega, ⟨fun h0 => ?_, fun i hi => ?_⟩, fun y hy => rng_i64 (hwf y (List.mem_of_mem_take hy))⟩
    · obtain ⟨_, b, off, hx⟩ := adr_some (hcell 0 (by omega))
      exact ⟨b, off, by rw [hx]⟩
    · have hi' : i < zs.length := by omega
      refine ⟨.int .i64 (zs.take len)[i], rfl, fun j hj => ?_, rfl⟩
      have hj0 : j = 0 := by simp [Value.cells] at hj; exact hj
      subst hj0
      have h1 := hcell i hi'
      have h2 := (adr_some (hcell 0 (by omega))).1 i
      rw [h2] at h1
      simp only [Nat.mul_one, Nat.add_zero, List.getElem_take]
      rw [h1]
      simp [List.getD_eq_getElem?_getD, hi', Value.cells]
end
end Go.Proofs.YtgimdkjgaemcbaaGreat
namespace Go.Proofs.YtgimdkjgaemcbaaGreat.seat
open Go.RowKit
theorem and_t {a b : Bool} (h1 : a = true) (h2 : b = true) : (a && b) = true := by rw [h1, h2]; rfl
theorem laid : laidOutB Tryz.pinned.checked.prog = true := by kernel_rfl
theorem maps : mapsRowed Tryz.pinned.checked.prog = true := by kernel_rfl
theorem stops : (Program.stops Tryz.pinned.checked.prog == []) = true := by kernel_rfl
theorem knobs : (Program.stopKnobs Tryz.pinned.checked.prog == []) = true := by kernel_rfl
theorem heard : Program.stopsHeard Tryz.pinned.checked.prog = true := by kernel_rfl
theorem enter : Program.mayEnter Tryz.pinned.checked.prog = true := by kernel_rfl
theorem lifts : (Rows.influenceBoundedRow.lifted == Program.liftsFinal Tryz.pinned.checked.prog) = true := by kernel_rfl
theorem make : (Program.make Tryz.pinned.checked.prog == some Rows.influenceBoundedRow.make) = true := by kernel_rfl
theorem plain : (Rows.influenceBoundedRow.plainKeys == Program.plainKeys Tryz.pinned.checked.prog) = true := by kernel_rfl
end Go.Proofs.YtgimdkjgaemcbaaGreat.seat
