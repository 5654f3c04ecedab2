/- Parts of a proof: each theorem states what it proves, and its conditions. -/
import Derived.Test.YthipmbmjodhiiaaGreatHcJ
import Derived.Test.YthipmbmjodhiiaaGreatRows
import Derived.WalkKit
import Derived.JoinedOf
import Derived.ProofKit
import Derived.OpenShut
import Derived.ShutString
import Derived.ChangeOld
import Derived.Below
import Derived.Deep.Slices
import Derived.Deep.Fields
import Derived.ChangeSame
namespace Go.Proofs.YthipmbmjodhiiaaGreat
open Go.RowKit Go.Rep Go.Lim
def TAtOut (X : Nat -> Bool) (tb B L : Nat) (w : World) (e : Ending) (w' : World) : Prop := ExtX (tbm tb) w w' /\ TapeR X tb w' /\ ∃ v y, e = .returned v /\ RV (mk X w') v y /\ BR B y /\ y.length <= L
def midL (a b : List Rat) : List Rat := List.zipWith (fun x y => ((1 : Int) : Rat) / ((2 : Int) : Rat) * (x + y)) a b
theorem hq_mid {x y : Rat} {B : Nat} (hx : hq x <= B) (hy : hq y <= B) : hq (x + y) <= 2 * B + 1 /\ hq (((1 : Int) : Rat) / ((2 : Int) : Rat)) <= 2 /\ hq (((1 : Int) : Rat) / ((2 : Int) : Rat) * (x + y)) <= 2 * B + 3 := by
  have h1 := hq_add x y
  have h2 := hq_frac (a := 1) (k := 2) (by omega) (by omega) (by omega) (by omega)
  have h3 := hq_mul (((1 : Int) : Rat) / ((2 : Int) : Rat)) (x + y)
  omega
theorem midL_br {a b : List Rat} {B : Nat} (ha : BR B a) (hb : BR B b) : BR (2 * B + 3) (midL a b) := fun q hq' => by
  unfold midL at hq'
  obtain ⟨i, hi, rfl⟩ := List.getElem_of_mem hq'
  rw [List.getElem_zipWith]
  simp at hi
  exact (hq_mid (ha _ (List.getElem_mem (by omega))) (hb _ (List.getElem_mem (by omega)))).2.2
set_option maxRecDepth 100000 in
set_option maxHeartbeats 3200000 in
theorem tat_any (X : Nat -> Bool) (tb : Nat) (w : World) (u : Value) (m : List (List Rat)) (B L : Nat) (ht : TapeR X tb w) (hX : HX X w) (hu : MV (mk X w) u m) (hm : m.length <= 1000) (hB : BM B m) (hL : ∀ r ∈ m, r.length <= L) (hBB : B <= 1000000000) (hL4 : 4 <= L) (hLL : L <= 1000) :
    Calls Tryz.prog 16 #[.pointer (some ⟨tb, 0, none⟩), u] w (TAtOut X tb (2 * B + 3) L w) := by
  have hsub := tbm_sub ht.1
  have htX := ht.1
  obtain ⟨po, pc, rfl, hpc, hpp⟩ := hu
  obtain ⟨f, hf⟩ := hpp.rowsF
  have hhd := hpp.hd
  obtain ⟨g, hg⟩ : ∃ g : Nat -> Nat, ∀ j (hj : j < m.length), m[j].length = g j := ⟨fun j => (m.getD j []).length, fun j hj => by simp [List.getD_eq_getElem?_getD, hj]⟩
  have hgd := hid hg
  obtain ⟨k, hk⟩ : ∃ k, m.length = k := ⟨_, rfl⟩
  have hk' := hid hk
  have hB' := hid hB
  have hL' := hid hL
  have hf' := hid hf
  have hpp' := hid hpp
  rw [hk] at hpc hhd hm |-
  clear hk hB hL hf hpp hg
  have hodd : Hid (∀ w1, ExtX (tbm tb) w w1 -> TapeR X tb w1 -> ∀ c : Nat, c < 5 -> Calls Tryz.prog 35 #[.pointer (some ⟨tb, 0, none⟩), .int .i64 (c : Int)] w1 (fun e w' => TAtOut X tb (2 * B + 3) L w e w' /\ ∃ ao n cap, e = .returned (.slice ao n cap))) := hid fun w1 hE1 ht1 c hc => by
    refine (toddrow_any X tb c w1 ht1 (hX.ext hE1) (by omega)).mono ?_
    rintro e w2 ⟨hE2, ao, l, cap, rfl, hl, hcap, hB2, ht2, hO2⟩
    exact ⟨⟨hE1.trans hE2, ht2.unX htX, _, l, rfl, ⟨ao, cap, by rw [hl], by omega, hO2.sl QV.elem⟩, fun q hq => Nat.le_trans (hB2 q hq) (by omega), by omega⟩, _, _, _, rfl⟩
  by_cases h0 : k = 0
  · have t0 : ((k : Int) == 0) = true := beqT (by omega)
    go_enter Tryz.func16, Tryz.ntmps16
    go_wp2_with fail
    refine (next_any X tb 5 _ ht (by omega)).mono ?_
    rintro e w1 ⟨hE1, ht1, c, rfl, hc⟩
    go_wp2_with fail
    refine (hodd.out w1 hE1 ht1 c (by omega)).mono ?_
    rintro e w2 ⟨h2, ao, n, cap, rfl⟩
    go_wp2_with fail
    go_ret
    exact h2
  have t0 : ((k : Int) == 0) = false := beqF (by omega)
  go_enter Tryz.func16, Tryz.ntmps16
  go_wp2_with fail
  refine (tbool_any X tb 12 _ ht (by omega) (by omega)).mono ?_
  rintro e w1 ⟨hE1, ht1, b1, rfl⟩
  cases b1
  rotate_left 1
  · go_wp2_with fail
    refine (next_any X tb 5 _ ht1 (by omega)).mono ?_
    rintro e w2 ⟨hE2, ht2, c, rfl, hc⟩
    go_wp2_with fail
    refine (hodd.out w2 (hE1.trans hE2) ht2 c (by omega)).mono ?_
    rintro e w3 ⟨h3, ao, n, cap, rfl⟩
    go_wp2_with fail
    go_ret
    exact h3
  clear hodd
  have hbt : Hid (∀ j, j < k -> (adr po j).block ≠ tb) := hid fun j hj => by
    obtain ⟨u, h1, _⟩ := hpp'.out.cell SlV.one j (by rw [hk'.out]; exact hj)
    intro he
    simp [mk, he, htX] at h1
  have hS : Hid (∀ w', ExtX (tbm tb) w1.drew w' -> ∀ j, j < k -> w'.cell? (adr po j) = some (.slice (f j).1 (g j) (f j).2)) := hid fun w' h j hj => by
    have hjl : j < m.length := by rw [hk'.out]; exact hj
    have h1 := mk_cell (hf'.out j hjl).1
    rw [hgd.out j hjl] at h1
    exact (hE1.drew.trans h).cellY h1 (tbm_ne (hbt.out j hj))
  have htd : TapeR X tb w1.drew := ht1.ext (ExtX.refl _).drew
  have i1 : ∀ j, j < k -> ∀ W, (Instr.indexAt 25 (.slice po k pc) (.int .i64 (j : Int))).run Tryz.prog W = .ok (.pointer (some (adr po j))) W := fun j hj => run_ix1 slRats po k pc .i64 j hhd hj rfl
  have i1' := hid i1
  have hkb : (k : Int) <= 1099511627776 := by omega
  clear i1
  go_wp2_with fail
  go_region_held3 (fun w' => ∀ j, j < k -> w'.cell? (adr po j) = some (.slice (f j).1 (g j) (f j).2))
    (first | exact hS.out _ (ExtX.refl _) | exact hS.out _ t1 | exact hS.out _ (t1.trans t2) | go_keep)
    (first | (go_at_call 31; (with_reducible refine (next_any X tb k w1.drew htd hkb).mono ?_); rintro ee w4 ⟨t1, ht4, m4, rfl, hm4⟩; have hm4k : m4 < k := (by omega); have i4 := i1'.out m4 hm4k) | (go_at_call 31; (with_reducible refine (next_any X tb k w4 ht4 hkb).mono ?_); rintro ee w5 ⟨t2, ht5, m5, rfl, hm5⟩; have hm5k : m5 < k := (by omega); have i5 := i1'.out m5 hm5k) | fail)
  have hla : m4 < m.length := by rw [hk'.out]; exact hm4k
  have hlb : m5 < m.length := by rw [hk'.out]; exact hm5k
  have hE5 : ExtX (tbm tb) w w5 := hE1.trans (((ExtX.refl _).drew).trans (t1.trans t2))
  obtain ⟨_, hca, hsa⟩ := hf'.out m4 hla
  obtain ⟨_, hcb, hsb⟩ := hf'.out m5 hlb
  have hBa := hid (hB'.out _ (List.getElem_mem hla))
  have hBb := hid (hB'.out _ (List.getElem_mem hlb))
  have hLa := hL'.out _ (List.getElem_mem hla)
  have hLb := hL'.out _ (List.getElem_mem hlb)
  have ga := hgd.out m4 hla
  have gb := hgd.out m5 hlb
  obtain ⟨ra, hra⟩ : ∃ ra, m[m4] = ra := ⟨_, rfl⟩
  obtain ⟨rb, hrb⟩ : ∃ rb, m[m5] = rb := ⟨_, rfl⟩
  obtain ⟨⟨aa, ac⟩, hfa⟩ : ∃ q, f m4 = q := ⟨_, rfl⟩
  obtain ⟨⟨ba, bc⟩, hfb⟩ : ∃ q, f m5 = q := ⟨_, rfl⟩
  rw [hra] at hca hsa hBa hLa ga
  rw [hrb] at hcb hsb hBb hLb gb
  rw [hfa] at hca hsa
  rw [hfb] at hcb hsb
  dsimp only at hca hcb hsa hsb
  obtain ⟨da, hda⟩ : ∃ da, ra.length = da := ⟨_, rfl⟩
  obtain ⟨db, hdb⟩ : ∃ db, rb.length = db := ⟨_, rfl⟩
  have hda' := hid hda
  have hdb' := hid hdb
  have hha := hsa.hd
  have hhb := hsb.hd
  rw [hda] at hca hLa hha ga
  rw [hdb] at hcb hLb hhb gb
  have ga' := hid ga
  have gb' := hid gb
  have hfa' := hid hfa
  have hfb' := hid hfb
  have hX5 := hX.ext hE5
  have hsa5 := hsa.mono QV.mono (mk_mono hE5 hsub)
  have hsb5 := hsb.mono QV.mono (mk_mono hE5 hsub)
  clear hra hrb hfa hfb hS hbt htd ht4 i4 i5 hm4 hm5 t1 t2 hE1 ht1 hsa hsb hda hdb i1' ht ga gb
  rw [hfa'.out, hfb'.out, <- ga'.out, <- gb'.out]
  dsimp only
  go_wp2_with fail
  have hrow : Hid (∀ w1, ExtX (tbm tb) w w1 -> TapeR X tb w1 -> Calls Tryz.prog 17 #[.pointer (some ⟨tb, 0, none⟩), .int .i64 (da : Int)] w1 (fun e w' => TAtOut X tb (2 * B + 3) L w e w' /\ ∃ ao n cap, e = .returned (.slice ao n cap))) := hid fun w1 hE1 ht1 => by
    refine (trow_any X tb da w1 ht1 (hX.ext hE1) (by omega)).mono ?_
    rintro e w2 ⟨hE2, ao, l, cap, rfl, hl, hcap, hB2, ht2, hO2⟩
    have hRC : RC (mk X w2) (.slice ao da cap) l := ⟨ao, cap, by rw [hl], by omega, hO2.sl QC.elem⟩
    exact ⟨⟨hE1.trans hE2, ht2.unX htX, _, l, rfl, hRC.rv (fun q hq => Nat.le_trans (hB2 q hq) (by omega)), fun q hq => Nat.le_trans (hB2 q hq) (by omega), by omega⟩, _, _, _, rfl⟩
  refine (tbool_any X tb 3 _ ht5 (by omega) (by omega)).mono ?_
  rintro e w6 ⟨hE6, ht6, b2, rfl⟩
  have hF6 := hE5.trans hE6
  cases b2
  rotate_left 1
  · go_wp2_with fail
    refine (hrow.out w6 hF6 ht6).mono ?_
    rintro e w7 ⟨h7, ao, n, cap, rfl⟩
    go_wp2_with fail
    go_ret
    exact h7
  by_cases hab : da = db
  rotate_left 1
  · have t1 : ((da : Int) != (db : Int)) = true := bneT (by omega)
    go_wp2_with fail
    refine (hrow.out w6 hF6 ht6).mono ?_
    rintro e w7 ⟨h7, ao, n, cap, rfl⟩
    go_wp2_with fail
    go_ret
    exact h7
  have t1 : ((da : Int) != (db : Int)) = false := bneF (by omega)
  have hab' := hid hab
  have hab1 : da <= db := by omega
  have hab2 : db <= da := by omega
  clear hab hrow
  go_wp2_with fail
  refine (tbool_any X tb 2 _ ht6 (by omega) (by omega)).mono ?_
  rintro e w7 ⟨hE7, ht7, b3, rfl⟩
  have hF7 := hF6.trans hE7
  have hX7 := hX.ext hF7
  have hsa7 := hsa5.mono QV.mono (mk_mono (hE6.trans hE7) hsub)
  have hsb7 := hsb5.mono QV.mono (mk_mono (hE6.trans hE7) hsub)
  clear hE5 hE6 hE7 ht5 ht6 hF6 hsa5 hsb5
  cases b3
  rotate_left 1
  · go_wp2_with (at_builtin; refine st_copyNil slRat rfl QV.elem w7.heap.size (Nat.le_refl _) hX7 ra da hda'.out rfl rfl hsa7 (by omega) (by omega) ?_; intro po5 pc5 w8 hO8 hc8 hE8)
    go_ret
    exact ⟨hF7.trans (ExtX.of hE8), ht7.ext hE8, _, ra, rfl, ⟨po5, pc5, by rw [hda'.out]; rfl, by rw [hda'.out]; exact hc8, hO8.sl QV.elem⟩, fun q hq => Nat.le_trans (hBa.out q hq) (by omega), by rw [hda'.out]; exact hLa⟩
  have hml : Hid ((midL ra rb).length = da) := hid (by unfold midL; simp [hda'.out, hdb'.out, hab'.out])
  obtain ⟨M, hM⟩ : ∃ M, midL ra rb = M := ⟨_, rfl⟩
  have hMB : BR (2 * B + 3) M := by rw [<- hM]; exact midL_br hBa.out hBb.out
  have hMi := hid (show ∀ j (h1 : j < ra.length) (h2 : j < rb.length) (h3 : j < M.length), M[j] = ((1 : Int) : Rat) / ((2 : Int) : Rat) * (ra[j] + rb[j]) from fun j h1 h2 h3 => by subst hM; simp [midL])
  rw [hM] at hml
  clear hM
  have hMl1 : M.length <= da := by rw [hml.out]; exact Nat.le_refl _
  have hMl2 : da <= M.length := by rw [hml.out]; exact Nat.le_refl _
  obtain ⟨wo, hwo⟩ : ∃ wo, wo = w7 := ⟨_, rfl⟩
  subst hwo
  go_wp2_with fail
  go_loopw [7, 55] (fun o cc wr => ∃ (j : Nat) (oo : Option Addr) (co : Nat), cc = .int .i64 j /\ o = .slice oo j co /\ j <= da /\ OL QC 3 X wo.heap.size 34 wr oo co (M.take j) /\ Ext wo wr) (fun _ cc _ => da - (intOf cc).toNat)
  case atStart => exact ⟨0, none, 0, rfl, rfl, Nat.zero_le _, OL.nil _ _ _ _ _ _, ExtX.refl _⟩
  case round =>
    obtain ⟨j, oo, co, rfl, rfl, hj, hO, hE⟩ := hrel
    have hXr : HX X wr := hX7.ext hE
    have hXu : HX (un X oo) wr := hO.unX hXr
    have hbase := hE.size
    by_cases hlt : j < da
    · have hja : j < ra.length := by rw [hda'.out]; exact hlt
      have hjb : j < rb.length := by rw [hdb'.out]; omega
      have hsr : Sl QV 3 (mk (un X oo) wr) aa ra := hsa7.old QV.mono hE (fun j hj => hO.ob_lt hj)
      have hsr2 : Sl QV 3 (mk (un X oo) wr) ba rb := hsb7.old QV.mono hE (fun j hj => hO.ob_lt hj)
      have hltM : j < M.length := by omega
      have htk := hid (take_snoc M j hltM)
      have hln := hid (len_take (l := M) (i := j) (by omega))
      obtain ⟨g1, o1, s1, a1, n1, c1, d1, k1, e1, hg1, hX1, hc1, hq1⟩ := hsr.rat QV.shaped j hja
      obtain ⟨g2, o2, s2, a2, n2, c2, d2, k2, e2, hg2, hX2, hc2, hq2⟩ := hsr2.rat QV.shaped j hjb
      have hob1 := (un_false hX1).2
      have hob2 := (un_false hX2).2
      have i1 : ∀ W, (Instr.indexAt 27 (.slice aa da ac) (.int .i64 (j : Int))).run Tryz.prog W = .ok (.pointer (some ⟨g1, o1, none⟩)) W := by rw [<- hg1]; exact run_indexAt_adr slRat aa da ac .i64 j hha (by omega)
      have i2 : ∀ W, (Instr.indexAt 27 (.slice ba db bc) (.int .i64 (j : Int))).run Tryz.prog W = .ok (.pointer (some ⟨g2, o2, none⟩)) W := by rw [<- hg2]; exact run_indexAt_adr slRat ba db bc .i64 j hhb (by omega)
      have hbx := hid (hBa.out _ (List.getElem_mem hja))
      have hby := hid (hBb.out _ (List.getElem_mem hjb))
      have hMj := hMi.out j hja hjb hltM
      obtain ⟨x, hx⟩ : ∃ x, ra[j] = x := ⟨_, rfl⟩
      obtain ⟨y, hy⟩ : ∃ y, rb[j] = y := ⟨_, rfl⟩
      rw [hx] at hq1 hbx hMj
      rw [hy] at hq2 hby hMj
      rw [hMj] at htk
      obtain ⟨h, hh⟩ : ∃ h, ((1 : Int) : Rat) / ((2 : Int) : Rat) = h := ⟨_, rfl⟩
      have hmb := hid (hq_mid hbx.out hby.out)
      have hfr := hid (fun W (hW : HX (un X oo) W) => rqfraction (un X oo) W 1 2 hW (by decide) (by decide) (by decide) (by decide) (by decide) (Nat.le_trans (lgI (by decide) (by decide)) (by decide)) (Nat.le_trans (lgI (by decide) (by decide)) (by decide)))
      rw [hh] at htk hmb hfr
      have hsq : Hid (hq (x + y) <= 68719476736) := hid (by have := hmb.out.1; omega)
      have hhq : Hid (hq h <= 68719476736) := hid (by have := hmb.out.2.1; omega)
      have hEd : Ext wr wr.drew := (ExtX.refl wr).drew
      have hS : Hid (∀ Y W', ExtX Y wr.drew W' -> Y g1 = false -> Y g2 = false -> W'.cell? ⟨g1, o1, none⟩ = some (.bool s1) /\ W'.cell? ⟨g1, o1 + 1, none⟩ = some (.slice a1 n1 c1) /\ W'.cell? ⟨g1, o1 + 2, none⟩ = some (.slice d1 k1 e1) /\ W'.cell? ⟨g2, o2, none⟩ = some (.bool s2) /\ W'.cell? ⟨g2, o2 + 1, none⟩ = some (.slice a2 n2 c2) /\ W'.cell? ⟨g2, o2 + 2, none⟩ = some (.slice d2 k2 e2)) := hid fun Y W' h hg hb => by
        have p1 := hc1.out Y W' ((ExtX.of hEd).trans h) hg
        have p2 := hc2.out Y W' ((ExtX.of hEd).trans h) hb
        exact ⟨p1.1, p1.2.1, p1.2.2, p2.1, p2.2.1, p2.2.2⟩
      obtain ⟨k00, k01, k02, k10, k11, k12⟩ := hS.out noY wr.drew (ExtX.refl _) rfl rfl
      have hxd : QV (mk (un X oo) wr.drew) (.agg #[.bool s1, .slice a1 n1 c1, .slice d1 k1 e1]) x := hq1
      have hyd : QV (mk (un X oo) wr.drew) (.agg #[.bool s2, .slice a2 n2 c2, .slice d2 k2 e2]) y := hq2
      have hXd : HX (un X oo) wr.drew := hXu
      clear hc1 hg1 hq1 hc2 hg2 hq2 hx hy hMj hh
      go_wp2_with fail
      go_region_held3 (fun w' => w'.cell? ⟨g1, o1, none⟩ = some (.bool s1) /\ w'.cell? ⟨g1, o1 + 1, none⟩ = some (.slice a1 n1 c1) /\ w'.cell? ⟨g1, o1 + 2, none⟩ = some (.slice d1 k1 e1) /\ w'.cell? ⟨g2, o2, none⟩ = some (.bool s2) /\ w'.cell? ⟨g2, o2 + 1, none⟩ = some (.slice a2 n2 c2) /\ w'.cell? ⟨g2, o2 + 2, none⟩ = some (.slice d2 k2 e2))
        (first | exact hS.out (ob oo) _ ((ExtX.of t123).trans hE7) hob1 hob2 | exact hS.out noY _ (ExtX.alloc t123 _) rfl rfl | exact hS.out noY _ t123 rfl rfl | exact hS.out noY _ t12 rfl rfl | exact hS.out noY _ t1 rfl rfl | go_keep)
        (first
          | (go_at_call 47; (with_reducible refine (hfr.out wr.drew hXd).mono ?_); rintro ee w6 ⟨t1, u6, rfl, hu6⟩; obtain ⟨s6, a6, n6, c6, d6, k6, e6, rfl⟩ := hu6.shape; have hX6 := hXd.ext t1; have hu6v := hu6.qv hhq.out; have hx6 := mkx QV.mono hxd t1; have hy6 := mkx QV.mono hyd t1)
          | (go_at_call 48; (with_reducible refine (rqadd (un X oo) w6 _ _ x y hX6 hx6 hy6).mono ?_); rintro ee w7 ⟨t2, u7, rfl, hu7⟩; obtain ⟨s7, a7, n7, c7, d7, k7, e7, rfl⟩ := hu7.shape; have t12 := t1.trans t2; have hX7' := hXd.ext t12; have hu7v := hu7.qv hsq.out; have hf7 := mkx QV.mono hu6v t2)
          | (go_at_call 19; (with_reducible refine (rqmul (un X oo) w7 _ _ h (x + y) hX7' hf7 hu7v).mono ?_); rintro ee w8 ⟨t3, u8, rfl, hu8⟩; obtain ⟨s8, a8, n8, c8, d8, k8, e8, rfl⟩ := hu8.shape; have t123 := t12.trans t3; have hO8 := hO.ext0 QC.elem (hEd.trans t123); have hb8 := (hEd.trans t123).size; have hX8 := hXr.ext (hEd.trans t123))
          | (refine step_append1 (l := M.take j) rfl (by rfl) slRat rfl QC.elem (by omega) hX8 j hln.out rfl rfl hO8 (.agg #[.bool s8, .slice a8 n8 c8, .slice d8 k8 e8]) (h * (x + y)) rfl hu8 (by omega) (by omega) ?_; intro oo2 co2 w9 hO9 hE7 hor)
          | fail)
      have hE9 := (hE.trans (hEd.trans t123)).own hO8 (Nat.le_refl _) hE7
      rw [htk.out] at hO9
      clear k00 k01 k02 k10 k11 k12
      go_wp2_with fail
      go_roundw
      case rel => exact ⟨j + 1, oo2, co2, by go_num, by go_num, by omega, hO9, hE9⟩
      case measure => simp [intOf]; omega
    · have hjl : j = da := by omega
      subst hjl
      rw [List.take_of_length_le (by omega)] at hO
      have hc := hO.lenCap
      have hRC : RC (mk X wr) (.slice oo j co) M := ⟨oo, co, by rw [hml.out], hc, hO.sl QC.elem⟩
      go_wp2_with fail
      go_ret
      exact ⟨hF7.trans (ExtX.of hE), ht7.ext hE, _, M, rfl, hRC.rv (fun q hq => Nat.le_trans (hMB q hq) (by omega)), hMB, by rw [hml.out]; exact hLa⟩
end Go.Proofs.YthipmbmjodhiiaaGreat
namespace Go.Lin
open Go.Lim Go.Rep
def P4 : Mat := [[0], [1], [2], [3]]
theorem aw_ok1 : depOk P4 [1] = true := by decide +kernel
theorem aw_ok2 : depOk P4 [mkRat 1 2] = true := by decide +kernel
theorem aw_ok3 : depOk P4 [5] = true := by decide +kernel
theorem aw_v (x : Rat) (k : Nat) (h : depOk P4 [x] = true) (e : 4 - max (posM 1 [1] (fromM 1 P4 [x])) (negM 1 [1] (fromM 1 P4 [x])) = k) : depV P4 [x] = k := by
  refine depV_yes h ?_
  have := dep_one (fromM 1 P4 [x])
  have e2 : (fromM 1 P4 [x]).length = 4 := by simp [fromM, P4]
  rw [e2, e] at this
  exact this
theorem aw1 : depV P4 [1] = 2 := aw_v 1 2 aw_ok1 (by decide +kernel)
theorem aw2 : depV P4 [mkRat 1 2] = 1 := aw_v _ 1 aw_ok2 (by decide +kernel)
theorem aw3 : depV P4 [5] = 0 := aw_v 5 0 aw_ok3 (by decide +kernel)
theorem P4_bm : BM 2 P4 := by
  intro r hr q hq
  have : (P4.all fun r => r.all fun q => decide (Go.Lim.hq q <= 2)) = true := by decide +kernel
  rw [List.all_eq_true] at this
  have := this r hr
  rw [List.all_eq_true] at this
  simpa using this q hq
theorem P4_get (i : Nat) (h : i < P4.length) : P4[i] = [((i : Nat) : Rat)] := by
  match i, h with
  | 0, _ => rfl
  | 1, _ => rfl
  | 2, _ => rfl
  | 3, _ => rfl
end Go.Lin
namespace Go.Proofs.YthipmbmjodhiiaaGreat
open Go.RowKit Go.Rep Go.Lim Go.Lin
theorem hnoX (w : World) : HX noY w := fun k hk => by simp [noY] at hk
set_option maxRecDepth 100000 in
set_option maxHeartbeats 800000 in
theorem awake25_any (w : World) : Calls Tryz.prog 21 #[] w (BOut w true) := by
  go_enter Tryz.func21, Tryz.ntmps21
  go_wp2_with fail
  go_loopw [1, 2] (fun o cx wr => ∃ (i : Nat) (po : Option Addr) (pc : Nat), cx = .int .i64 i /\ o = .slice po i pc /\ i <= 4 /\ OL RC 1 noY w.heap.size 27 wr po pc (P4.take i) /\ Ext w wr) (fun _ cx _ => 4 - (intOf cx).toNat)
  case atStart => exact ⟨0, none, 0, rfl, rfl, Nat.zero_le _, OL.nil _ _ _ _ _ _, ExtX.refl _⟩
  case round =>
    obtain ⟨i, po, pc, rfl, rfl, hi, hO, hE⟩ := hrel
    by_cases hlt : i < 4
    · have hil : i < P4.length := hlt
      have htk := hid (take_snoc P4 i hil)
      have hln := hid (len_take (l := P4) (i := i) (Nat.le_of_lt hil))
      have hg := hid (P4_get i hil)
      rw [hg.out] at htk
      have hXu : HX (un noY po) wr := hO.unX (hnoX wr)
      have hiv : Hid ((((i : Int) : Rat)) = ((i : Nat) : Rat)) := hid rfl
      go_wp2_with fail
      refine (rqfrom (un noY po) wr (i : Int) hXu (by omega) (by omega)).mono ?_
      rintro e w5 ⟨hE5, u5, rfl, hu5⟩
      rw [hiv.out] at hu5
      obtain ⟨s5, a5, n5, c5, d5, m5, e5, rfl⟩ := hu5.shape
      have hL1 := (lit_rat1 (un noY po) w5 s5 a5 n5 c5 d5 m5 e5 ((i : Nat) : Rat) 34 (hXu.ext hE5) hu5).sl QC.elem
      have hEA : Ext w5 (w5.alloc (.cells #[.bool s5, .slice a5 n5 c5, .slice d5 m5 e5] 34)) := (ExtX.refl _).alloc _
      obtain ⟨wA, hwA⟩ : ∃ wA, w5.alloc (.cells #[.bool s5, .slice a5 n5 c5, .slice d5 m5 e5] 34) = wA := ⟨_, rfl⟩
      obtain ⟨gA, hgA⟩ : ∃ gA : Option Addr, some ⟨w5.heap.size, 0, none⟩ = gA := ⟨_, rfl⟩
      rw [hwA, hgA] at hL1
      rw [hwA] at hEA
      have hOA := hO.ext0 RC.elem (hE5.trans hEA)
      have hRC : RC (mk (un noY po) wA) (.slice gA 1 1) [((i : Nat) : Rat)] := ⟨gA, 1, rfl, Nat.le_refl _, hL1⟩
      have hbA := (hE.trans (hE5.trans hEA)).size
      have hEwA := hE.trans (hE5.trans hEA)
      clear hO hu5 hL1
      go_wp2_with (at_builtin; refine st_append1n (l := P4.take i) slRats rfl RC.elem hbA (hnoX wA) i hln.out rfl rfl hOA (.slice gA 1 1) [((i : Nat) : Rat)] rfl hRC (by omega) (by omega) ?_; intro oo2 co2 w7 hO7 hE7 hor)
      have hE8 := hEwA.own hOA (Nat.le_refl _) hE7
      rw [htk.out] at hO7
      go_roundw
      case rel => exact ⟨i + 1, oo2, co2, by go_num, by go_num, by omega, hO7, hE8⟩
      case measure => simp [intOf]; omega
    · have hi4 : i = 4 := by omega
      subst hi4
      have ht4 : P4.take 4 = P4 := rfl
      rw [ht4] at hO
      have hP := (hO.toRV (P4_bm.le (by decide))).sl RV.elem
      have hPc := hO.lenCap
      have hPV : MV (mk noY wr) (.slice po 4 pc) P4 := ⟨po, pc, rfl, hPc, hP⟩
      obtain ⟨a1, c1, hX1, hc1, hcl1, hq1⟩ := hP.row 1 (by decide)
      have k00 := hc1.out noY wr (ExtX.refl _) rfl
      have hh : Hd po 4 := hP.hd
      have hrow : RV (mk noY wr) (.slice a1 1 c1) [1] := ⟨a1, c1, rfl, hcl1, hq1⟩
      have hd1 := hdepth_any noY wr (.slice po 4 pc) (.slice a1 1 c1) P4 [1] 2 (hnoX wr) hPV hrow (by decide) P4_bm (fun q hq => by rw [List.mem_singleton.1 hq]; decide +kernel) (by decide) (by decide)
      rw [aw1, aw_ok1] at hd1
      have k01 : wr.cell? (adr po 1) = some (.slice a1 1 c1) := k00
      clear k00 hc1 hO hP
      go_wp2_with (with_reducible refine up_ix1 slRats (by omega) (by assumption) ?_)
      refine hd1.mono ?_
      rintro e w2 ⟨hE2, rfl⟩
      clear hd1 k01
      have hEw2 := hE.trans hE2
      go_wp2_with fail
      refine (rqfraction noY w2 1 2 (hnoX w2) (by decide) (by decide) (by decide) (by decide) (by decide) (by decide +kernel) (by decide +kernel)).mono ?_
      rintro e w3 ⟨hE3, u3, rfl, hu3⟩
      have hf2 : ((1 : Int) : Rat) / ((2 : Int) : Rat) = mkRat 1 2 := by decide +kernel
      rw [hf2] at hu3
      obtain ⟨s3, a3, n3, c3, d3, m3, e3, rfl⟩ := hu3.shape
      have hL3 := (lit_rat1 noY w3 s3 a3 n3 c3 d3 m3 e3 (mkRat 1 2) 34 (hnoX w3) hu3).sl QC.elem
      have hEA : Ext w3 (w3.alloc (.cells #[.bool s3, .slice a3 n3 c3, .slice d3 m3 e3] 34)) := (ExtX.refl _).alloc _
      obtain ⟨wA, hwA⟩ : ∃ wA, w3.alloc (.cells #[.bool s3, .slice a3 n3 c3, .slice d3 m3 e3] 34) = wA := ⟨_, rfl⟩
      obtain ⟨gA, hgA⟩ : ∃ gA : Option Addr, some ⟨w3.heap.size, 0, none⟩ = gA := ⟨_, rfl⟩
      rw [hwA, hgA] at hL3
      rw [hwA] at hEA
      have hEw3 := hEw2.trans (hE3.trans hEA)
      have hd2 := hdepth_any noY wA (.slice po 4 pc) (.slice gA 1 1) P4 [mkRat 1 2] 2 (hnoX wA) (mkx MV.mono hPV (hE2.trans (hE3.trans hEA))) ⟨gA, 1, rfl, Nat.le_refl _, hL3.qv fun q hq => by rw [List.mem_singleton.1 hq]; decide +kernel⟩ (by decide) P4_bm (fun q hq => by rw [List.mem_singleton.1 hq]; decide +kernel) (by decide) (by decide)
      rw [aw2, aw_ok2] at hd2
      clear hL3 hu3 hrow
      go_wp2_with fail
      refine hd2.mono ?_
      rintro e w4 ⟨hE4, rfl⟩
      clear hd2
      have hEw4 := hEw3.trans hE4
      go_wp2_with fail
      refine (rqfrom noY w4 5 (hnoX w4) (by decide) (by decide)).mono ?_
      rintro e w5 ⟨hE5, u5, rfl, hu5⟩
      have hv5 : (((5 : Int) : Rat)) = 5 := rfl
      rw [hv5] at hu5
      obtain ⟨s5, a5, n5, c5, d5, m5, e5, rfl⟩ := hu5.shape
      have hL5 := (lit_rat1 noY w5 s5 a5 n5 c5 d5 m5 e5 5 34 (hnoX w5) hu5).sl QC.elem
      have hEB : Ext w5 (w5.alloc (.cells #[.bool s5, .slice a5 n5 c5, .slice d5 m5 e5] 34)) := (ExtX.refl _).alloc _
      obtain ⟨wB, hwB⟩ : ∃ wB, w5.alloc (.cells #[.bool s5, .slice a5 n5 c5, .slice d5 m5 e5] 34) = wB := ⟨_, rfl⟩
      obtain ⟨gB, hgB⟩ : ∃ gB : Option Addr, some ⟨w5.heap.size, 0, none⟩ = gB := ⟨_, rfl⟩
      rw [hwB, hgB] at hL5
      rw [hwB] at hEB
      have hEw5 := hEw4.trans (hE5.trans hEB)
      have hd3 := hdepth_any noY wB (.slice po 4 pc) (.slice gB 1 1) P4 [5] 2 (hnoX wB) (mkx MV.mono hPV (hE2.trans (hE3.trans (hEA.trans (hE4.trans (hE5.trans hEB)))))) ⟨gB, 1, rfl, Nat.le_refl _, hL5.qv fun q hq => by rw [List.mem_singleton.1 hq]; decide +kernel⟩ (by decide) P4_bm (fun q hq => by rw [List.mem_singleton.1 hq]; decide +kernel) (by decide) (by decide)
      rw [aw3, aw_ok3] at hd3
      clear hL5 hu5 hPV
      go_wp2_with fail
      refine hd3.mono ?_
      rintro e w6 ⟨hE6, rfl⟩
      clear hd3
      go_wp2_with fail
      go_ret
      exact ⟨hEw5.trans hE6, rfl⟩
end Go.Proofs.YthipmbmjodhiiaaGreat
namespace Go.Proofs.YthipmbmjodhiiaaGreat.seat
open Go.RowKit
theorem and_t {a b : Bool} (h1 : a = true) (h2 : b = true) : (a && b) = true := by rw [h1, h2]; rfl
theorem laid : laidOutB Tryz.pinned.checked.prog = true := by kernel_rfl
theorem maps : mapsRowed Tryz.pinned.checked.prog = true := by kernel_rfl
theorem stops : (Program.stops Tryz.pinned.checked.prog == []) = true := by kernel_rfl
theorem knobs : (Program.stopKnobs Tryz.pinned.checked.prog == []) = true := by kernel_rfl
theorem heard : Program.stopsHeard Tryz.pinned.checked.prog = true := by kernel_rfl
theorem enter : Program.mayEnter Tryz.pinned.checked.prog = true := by kernel_rfl
theorem lifts : (Rows.halfspaceMovesRow.lifted == Program.liftsFinal Tryz.pinned.checked.prog) = true := by kernel_rfl
theorem make : (Program.make Tryz.pinned.checked.prog == some Rows.halfspaceMovesRow.make) = true := by kernel_rfl
theorem plain : (Rows.halfspaceMovesRow.plainKeys == Program.plainKeys Tryz.pinned.checked.prog) = true := by kernel_rfl
end Go.Proofs.YthipmbmjodhiiaaGreat.seat
namespace Go.Proofs.YthipmbmjodhiiaaGreat
open Go.ChangeShapes Go.WideShapes Go.ChangeAt Go.RowKit Go.Rep Go.Deep
section
variable {H : Type} {enc : TypeId × Value -> H} {w : World} {base : Nat} {spare : Nat -> Bool} {held : Bool}
theorem adr_some {x : Addr} {v : Value} (h : w.cell? (x.add 0) = some v) : (∀ j, x.add j = adr (some x) j) /\ ∃ b off, x = ⟨b, off, none⟩ := by
  have hs := World.cell?_spot h
  obtain ⟨b, off, spot⟩ := x
  have hspot : spot = none := by simpa [Addr.add] using hs
  subst hspot
  exact ⟨fun j => by rw [Addr.add_lit]; simp [adr], b, off, rfl⟩
end
end Go.Proofs.YthipmbmjodhiiaaGreat
namespace Go.Proofs.YthipmbmjodhiiaaGreat
open Go.ChangeShapes Go.WideShapes Go.ChangeAt Go.RowKit Go.Rep Go.Deep
theorem rng_i64 {n : Int} (h : (Lit.int .i64 n).wf = true) : -9223372036854775808 <= n /\ n <= 9223372036854775807 := by
  unfold Lit.wf at h
  simpa [IntKind.min, IntKind.max, IntKind.signed, IntKind.bits] using h
section
variable {H : Type} {enc : TypeId × Value -> H} {P : Program} {w : World} {base : Nat} {spare : Nat -> Bool} {held : Bool}
theorem ints_wf {fuel : Nat} {v : Value} {x : DataW H × List MemPlace} (h : DataW.trod enc Tryz.prog w base spare held fuel 22 [v] = some x) :
    ∃ (a : Option Addr) (l : List Int) (cap : Nat), v = .slice a l.length cap /\ l.length <= cap /\ l.length <= 9223372036854775807 /\ Sl (IntIn .i64) 1 (mk noY w) a l /\ ∀ x ∈ l, -9223372036854775808 <= x /\ x <= 9223372036854775807 := by
  rw [mk_noY]
  rcases open_ints Tryz.underlying22 Tryz.underlying3 (by kernel_rfl) h with ⟨hcs, _⟩ | ⟨x, len, c, zs, hcs, _, hl, hm, hz, _, hcell, hwf⟩
  · refine ⟨none, [], 0, by simpa using hcs, by simp, by simp, Sl.nil _ _ _ _, by simp⟩
  · have hzl : len <= zs.length := by
      rw [hz]; split <;> omega
    have hlen : (zs.take len).length = len := by simp; omega
    have hmax : c <= 9223372036854775807 := by simpa [maxLen] using hm
    refine ⟨some x, zs.take len, c, by rw [hlen]; simpa using hcs, by omega, by omega, ⟨fun h0 => ?_, fun i hi => ?_⟩, fun y hy => rng_i64 (hwf y (List.mem_of_mem_take hy))⟩
    · obtain ⟨_, b, off, hx⟩ := adr_some (hcell 0 (by omega))
      exact ⟨b, off, by rw [hx]⟩
    · have hi' : i < zs.length := by omega
      refine ⟨.int .i64 (zs.take len)[i], rfl, fun j hj => ?_, rfl⟩
      have hj0 : j = 0 := by simp [Value.cells] at hj; exact hj
      subst hj0
      have h1 := hcell i hi'
      have h2 := (adr_some (hcell 0 (by omega))).1 i
      rw [h2] at h1
      simp only [Nat.mul_one, Nat.add_zero, List.getElem_take]
      rw [h1]
      simp [List.getD_eq_getElem?_getD, hi', Value.cells]
end
end Go.Proofs.YthipmbmjodhiiaaGreat
namespace Go.Proofs.YthipmbmjodhiiaaGreat
open Go.RowKit Go.Rep Go.Lim
set_option maxRecDepth 100000 in
theorem rminus23 (X : Nat -> Bool) (w : World) (u v : Value) (l m : List Rat) (hX : HX X w) (hu : RV (mk X w) u l) (hv : RV (mk X w) v m) (hl : l.length <= 1000000) (hml : m.length = l.length) : Calls Tryz.prog 102 #[u, v] w (ROut X w RC (List.zipWith (· - ·) l m)) := by
  obtain ⟨ao, ca, rfl, hca, hsa⟩ := hu
  have hha := hsa.hd
  obtain ⟨bo, cb, rfl, hcb, hsb⟩ := hv
  have hhb := hsb.hd
  have hml1 : m.length <= l.length := by omega
  have hml2 : l.length <= m.length := by omega
  obtain ⟨L, hL⟩ : ∃ L, List.zipWith (· - ·) l m = L := ⟨_, rfl⟩
  have hLl : L.length = l.length := by rw [<- hL]; simp; omega
  have hLi := hid (show ∀ i (hi : i < l.length) (hj : i < m.length) (hi' : i < L.length), L[i] = l[i] - m[i] from fun i hi hj hi' => by subst hL; simp)
  rw [hL]
  have hLl1 : L.length <= l.length := by omega
  have hLl2 : l.length <= L.length := by omega
  have hLl' := hid hLl
  clear hL hml hLl
  go_enter Tryz.func102, Tryz.ntmps102
  go_wp2_with fail
  go_loopw [5, 9] (fun o cc wr => ∃ (i : Nat) (oo : Option Addr) (co : Nat), cc = .int .i64 i /\ o = .slice oo i co /\ i <= l.length /\ OL QC 3 X w.heap.size 34 wr oo co (L.take i) /\ Ext w wr) (fun _ cc _ => l.length - (intOf cc).toNat)
  case atStart => exact ⟨0, none, 0, rfl, rfl, Nat.zero_le _, OL.nil _ _ _ _ _ _, ExtX.refl _⟩
  case round =>
    obtain ⟨i, oo, co, rfl, rfl, hi, hO, hE⟩ := hrel
    have hXr : HX X wr := hX.ext hE
    have hXu : HX (un X oo) wr := hO.unX hXr
    have hbase := hE.size
    by_cases hlt : i < l.length
    · have hsr : Sl QV 3 (mk (un X oo) wr) ao l := hsa.old QV.mono hE (fun j hj => hO.ob_lt hj)
      have hltL : i < L.length := by omega
      have htk := hid (take_snoc L i hltL)
      have hln := hid (len_take (l := L) (i := i) (by omega))
      have hltm : i < m.length := by omega
      have hsr2 : Sl QV 3 (mk (un X oo) wr) bo m := hsb.old QV.mono hE (fun j hj => hO.ob_lt hj)
      obtain ⟨g2, o2, s2, a2, n2, c2, d2, k2, e2, hg2, hX2, hc2, hq2⟩ := hsr2.rat QV.shaped i hltm
      obtain ⟨g1, o1, s1, a1, n1, c1, d1, k1, e1, hg1, hX1, hc1, hq1⟩ := hsr.rat QV.shaped i hlt
      have hob1 := (un_false hX1).2
      have hobb := (un_false hX2).2
      have i2 : ∀ W, (Instr.indexAt 27 (.slice bo m.length cb) (.int .i64 (i : Int))).run Tryz.prog W = .ok (.pointer (some ⟨g2, o2, none⟩)) W := by rw [<- hg2]; exact run_indexAt_adr slRat bo m.length cb .i64 i hhb (by omega)
      have i1 : ∀ W, (Instr.indexAt 27 (.slice ao l.length ca) (.int .i64 (i : Int))).run Tryz.prog W = .ok (.pointer (some ⟨g1, o1, none⟩)) W := by rw [<- hg1]; exact run_indexAt_adr slRat ao l.length ca .i64 i hha (by omega)
      have hEd : Ext wr wr.drew := (ExtX.refl wr).drew
      have hS : Hid (∀ Y W', ExtX Y wr.drew W' -> Y g1 = false -> Y g2 = false -> W'.cell? ⟨g1, o1, none⟩ = some (.bool s1) /\ W'.cell? ⟨g1, o1 + 1, none⟩ = some (.slice a1 n1 c1) /\ W'.cell? ⟨g1, o1 + 2, none⟩ = some (.slice d1 k1 e1) /\ W'.cell? ⟨g2, o2, none⟩ = some (.bool s2) /\ W'.cell? ⟨g2, o2 + 1, none⟩ = some (.slice a2 n2 c2) /\ W'.cell? ⟨g2, o2 + 2, none⟩ = some (.slice d2 k2 e2)) := hid fun Y W' h hg hb => by
        have p1 := hc1.out Y W' ((ExtX.of hEd).trans h) hg
        have p2 := hc2.out Y W' ((ExtX.of hEd).trans h) hb
        exact ⟨p1.1, p1.2.1, p1.2.2, p2.1, p2.2.1, p2.2.2⟩
      obtain ⟨k00, k01, k02, k10, k11, k12⟩ := hS.out noY wr.drew (ExtX.refl _) rfl rfl
      have hxd : QV (mk (un X oo) wr.drew) (.agg #[.bool s1, .slice a1 n1 c1, .slice d1 k1 e1]) l[i] := hq1
      have hvd : QV (mk (un X oo) wr.drew) (.agg #[.bool s2, .slice a2 n2 c2, .slice d2 k2 e2]) m[i] := hq2
      have hXd : HX (un X oo) wr.drew := hXu
      have hyi := hLi.out i hlt hltm hltL
      rw [hyi] at htk
      clear hc1 hg1 hq1 hc2 hg2 hq2
      go_wp2_with fail
      go_region_held3 (fun w' => w'.cell? ⟨g1, o1, none⟩ = some (.bool s1) /\ w'.cell? ⟨g1, o1 + 1, none⟩ = some (.slice a1 n1 c1) /\ w'.cell? ⟨g1, o1 + 2, none⟩ = some (.slice d1 k1 e1) /\ w'.cell? ⟨g2, o2, none⟩ = some (.bool s2) /\ w'.cell? ⟨g2, o2 + 1, none⟩ = some (.slice a2 n2 c2) /\ w'.cell? ⟨g2, o2 + 2, none⟩ = some (.slice d2 k2 e2))
        (first | exact hS.out noY _ t1 rfl rfl | exact hS.out noY _ (ExtX.alloc t1 _) rfl rfl | exact hS.out (ob oo) _ ((ExtX.of t1).trans hE7) hob1 hobb | go_keep)
        (first | (go_at_call 18; (with_reducible refine (rqsub (un X oo) wr.drew _ _ _ _ hXd hxd hvd).mono ?_); rintro ee w6 ⟨t1, u6, rfl, hu6⟩; obtain ⟨s6, a6, n6, c6, d6, k6, e6, rfl⟩ := hu6.shape; have hO6 := hO.ext0 QC.elem (hEd.trans t1); have hb6 := (hEd.trans t1).size; have hX6 := hXr.ext (hEd.trans t1)) | (refine step_append1 (l := L.take i) rfl (by rfl) slRat rfl QC.elem (by omega) hX6 i hln.out rfl rfl hO6 (.agg #[.bool s6, .slice a6 n6 c6, .slice d6 k6 e6]) (l[i] - m[i]) rfl hu6 (by omega) (by omega) ?_; intro oo2 co2 w7 hO7 hE7 hor))
      have hE8 := (hE.trans (hEd.trans t1)).own hO6 (Nat.le_refl _) hE7
      rw [htk.out] at hO7
      clear k00 k01 k02 k10 k11 k12
      go_wp2_with fail
      go_roundw
      case rel => exact ⟨i + 1, oo2, co2, by go_num, by go_num, by omega, hO7, hE8⟩
      case measure => simp [intOf]; omega
    · have hil : i = l.length := by omega
      subst hil
      rw [List.take_of_length_le (by omega)] at hO
      have hc := hO.lenCap
      have hs := hO.sl QC.elem
      go_wp2_with fail
      go_ret
      exact ⟨hE, _, rfl, oo, co, by rw [hLl'.out]; rfl, hc, hs⟩
end Go.Proofs.YthipmbmjodhiiaaGreat
namespace Go.Proofs.YthipmbmjodhiiaaGreat
open Go.RowKit Go.Rep Go.Lim Go.Lin
set_option maxRecDepth 100000 in
theorem rfrom25 (X : Nat -> Bool) (w : World) (u v : Value) (p : List (List Rat)) (x : List Rat) (c : Nat) (hX : HX X w) (hu : MV (mk X w) u p) (hv : RV (mk X w) v x) (hsh : ∀ r ∈ p, r.length = c) (hx : x.length = c) (hc : c <= 1000) (hp : p.length <= 1000) : Calls Tryz.prog 65 #[u, v] w (ROut X w MC (fromM c p x)) := by
  obtain ⟨M, hM⟩ : ∃ M, fromM c p x = M := ⟨_, rfl⟩
  obtain ⟨n, hn⟩ : ∃ n, p.length = n := ⟨_, rfl⟩
  have hMl : Hid (M.length = n) := hid (by rw [<- hM, <- hn]; simp [fromM])
  have hMr : Hid (∀ j (hj : j < p.length) (h : j < M.length), M[j] = List.zipWith (· - ·) p[j] x) := hid fun j hj h => by subst hM; exact from_get hsh hx j hj h
  have hMl2 : M.length <= n := by rw [hMl.out]; exact Nat.le_refl _
  have hMl3 : n <= M.length := by rw [hMl.out]; exact Nat.le_refl _
  obtain ⟨ua, uca, rfl, huca, hua⟩ := hu
  have hhu := hua.hd
  obtain ⟨va, vca, rfl, hvca, hva⟩ := hv
  have hn' := hid hn
  have hsh' := hid hsh
  have hx' := hid hx
  rw [hM]
  rw [hn] at hp huca hhu |-
  clear hM hn hsh hx
  go_enter Tryz.func65, Tryz.ntmps65
  go_wp2_with fail
  go_loopw [5, 10] (fun o cc wr => ∃ (i : Nat) (oo : Option Addr) (co : Nat), cc = .int .i64 i /\ o = .slice oo i co /\ i <= n /\ OL RC 1 X w.heap.size 27 wr oo co (M.take i) /\ Ext w wr) (fun _ cc _ => n - (intOf cc).toNat)
  case atStart => exact ⟨0, none, 0, rfl, rfl, Nat.zero_le _, OL.nil _ _ _ _ _ _, ExtX.refl _⟩
  case round =>
    obtain ⟨i, oo, co, rfl, rfl, hi, hO, hE⟩ := hrel
    have hXr : HX X wr := hX.ext hE
    have hXu : HX (un X oo) wr := hO.unX hXr
    have hbase := hE.size
    by_cases hlt : i < n
    · have him : i < p.length := by rw [hn'.out]; exact hlt
      have hltM : i < M.length := by omega
      have htk := hid (take_snoc M i hltM)
      have hln := hid (len_take (l := M) (i := i) (by omega))
      have hRd := hMr.out i him hltM
      have hsr : Sl RV 1 (mk (un X oo) wr) ua p := hua.old RV.mono hE (fun j hj => hO.ob_lt hj)
      have hvr : RV (mk (un X oo) wr) (.slice va x.length vca) x := old_un RV.mono ⟨va, vca, rfl, hvca, hva⟩ hE (fun j hj => hO.ob_lt hj)
      obtain ⟨a1, c1, hX1, hc1, hcl1, hq1⟩ := hsr.row i him
      have k00 := hc1.out noY wr (ExtX.refl _) rfl
      have hrl := hid (hsh'.out p[i] (List.getElem_mem _))
      have hmi := rminus23 (un X oo) wr _ _ p[i] x hXu ⟨a1, c1, rfl, hcl1, hq1⟩ hvr (by rw [hrl.out]; omega) (by rw [hrl.out, hx'.out])
      rw [<- hRd] at hmi
      obtain ⟨R, hR⟩ : ∃ R, M[i] = R := ⟨_, rfl⟩
      rw [hR] at hmi htk
      clear hR hRd hc1
      go_wp2_with (with_reducible refine up_ix1 slRats (by omega) (by assumption) ?_)
      refine hmi.mono ?_
      rintro e w6 ⟨hE6, u6, rfl, ro, cr, rfl, hcr, hsR⟩
      have hRC : RC (mk (un X oo) w6) (.slice ro R.length cr) R := ⟨ro, cr, rfl, hcr, hsR⟩
      obtain ⟨k, hk⟩ : ∃ k, R.length = k := ⟨_, rfl⟩
      rw [hk] at hRC |-
      have hO6 := hO.ext0 RC.elem hE6
      have hb6 := hE6.size
      clear k00
      go_wp2_with (at_builtin; refine st_append1n (l := M.take i) slRats rfl RC.elem (by omega) (hXr.ext hE6) i hln.out rfl rfl hO6 (.slice ro k cr) R rfl hRC (by omega) (by omega) ?_; intro oo2 co2 w7 hO7 hE7 hor)
      have hE8 := (hE.trans hE6).own hO6 (Nat.le_refl _) hE7
      rw [htk.out] at hO7
      go_roundw
      case rel => exact ⟨i + 1, oo2, co2, by go_num, by go_num, by omega, hO7, hE8⟩
      case measure => simp [intOf]; omega
    · have hil : i = n := by omega
      subst hil
      rw [List.take_of_length_le (by omega)] at hO
      have hc := hO.lenCap
      have hs := hO.sl RC.elem
      go_wp2_with fail
      go_ret
      exact ⟨hE, _, rfl, oo, co, by rw [hMl.out]; rfl, hc, hs⟩
end Go.Proofs.YthipmbmjodhiiaaGreat
namespace Go.Proofs.YthipmbmjodhiiaaGreat
open Go.RowKit Go.Rep Go.Lim Go.Lin
set_option maxRecDepth 100000 in
set_option maxHeartbeats 1600000 in
theorem rdot23_any (X : Nat -> Bool) (w : World) (u v : Value) (l m : List Rat) (hX : HX X w) (hu : RV (mk X w) u l) (hv : RV (mk X w) v m) (hn : l.length <= 1000000) (hml : m.length = l.length) (hb1 : ∀ k, k <= l.length -> hq (dotN l m k) <= 68719476736) (hb2 : ∀ k, k < l.length -> hq (l.getD k 0 * m.getD k 0) <= 68719476736) :
    Calls Tryz.prog 56 #[u, v] w (ROut X w QC (dotL l m)) := by
  obtain ⟨ao, ca, rfl, hca, hsa⟩ := hu
  obtain ⟨bo, cb, rfl, hcb, hsb⟩ := hv
  have hha := hsa.hd
  have hhb := hsb.hd
  obtain ⟨W, hW, hE, b0, b1, hz⟩ := boxes2 w #[.bool false, .slice none 0 0, .slice none 0 0] #[.bool false, .slice none 0 0, .slice none 0 0] 34 34
  have hXW : HX (hidB X w.heap.size 2) W := hX.boxes hz
  have h0 : QC (mk (hidB X w.heap.size 2) W) (.agg #[.bool false, .slice none 0 0, .slice none 0 0]) (dotN l m 0) := QC.zero _
  obtain ⟨n, hln⟩ : ∃ n, l.length = n := ⟨_, rfl⟩
  rw [hln] at hn hml hb1 hb2 hca hha |-
  rw [hml] at hcb hhb |-
  have hln' := hid hln
  have hml' := hid hml
  have hb1' := hid hb1
  have hb2' := hid hb2
  have hdot : Hid (dotN l m n = dotL l m) := hid (by unfold dotL; rw [hln])
  clear hln hml hb1 hb2
  go_enter Tryz.func56, Tryz.ntmps56
  go_wp2_with fail
  obtain ⟨b, hb⟩ : ∃ b, w.heap.size = b := ⟨_, rfl⟩
  have hle : Hid (∀ wr, Ext w wr -> Le (mk X w) (mk (hidB X b 2) wr)) := hid fun wr h => by rw [<- hb]; exact le_boxes h
  have hbw : w.heap.size <= b := by omega
  rw [hb] at b0 b1 hXW h0 |-
  clear hW
  go_loopw [9] (fun k wr => ∃ (i : Nat) (s : Bool) (a : Option Addr) (n' c' : Nat) (d : Option Addr) (kk e : Nat), k = .int .i64 i /\ i <= n /\ Bx wr b #[.bool false, .slice none 0 0, .slice none 0 0] 34 /\ Bx wr (b + 1) #[.bool s, .slice a n' c', .slice d kk e] 34 /\ QC (mk (hidB X b 2) wr) (.agg #[.bool s, .slice a n' c', .slice d kk e]) (dotN l m i) /\ HX (hidB X b 2) wr /\ Ext w wr) (fun k _ => n - (intOf k).toNat)
  case atStart => exact ⟨0, _, _, _, _, _, _, _, rfl, Nat.zero_le _, b0, b1, h0, hXW, hE⟩
  case round =>
    obtain ⟨i, s, a, n', c', d, kk, e, rfl, hi, b0, b1, hq, hXr, hEr⟩ := hrel
    by_cases hlt : i < n
    · have hil : i < l.length := by rw [hln'.out]; exact hlt
      have him : i < m.length := by rw [hml'.out]; exact hlt
      have hsr := hsa.mono QV.mono (hle.out wr hEr)
      have hsr2 := hsb.mono QV.mono (hle.out wr hEr)
      obtain ⟨g1, o1, s1, p1, n1, q1, d1, k1, e1, hg1, hX1, hc1, hq1⟩ := hsr.rat QV.shaped i hil
      obtain ⟨g2, o2, s2, p2, n2, q2, d2, k2, e2, hg2, hX2, hc2, hq2⟩ := hsr2.rat QV.shaped i him
      have gl : Hid (l.getD i 0 = l[i]) := hid (by simp [List.getD_eq_getElem?_getD, hil])
      have gm : Hid (m.getD i 0 = m[i]) := hid (by simp [List.getD_eq_getElem?_getD, him])
      have hst : Hid (dotN l m i + l[i] * m[i] = dotN l m (i + 1)) := hid (by rw [<- gl.out, <- gm.out]; rfl)
      have hbo := hid (hb1'.out i hi)
      have hbp := hid (hb2'.out i hlt)
      rw [gl.out, gm.out] at hbp
      obtain ⟨x, hx⟩ : ∃ x, l[i] = x := ⟨_, rfl⟩
      obtain ⟨y, hy⟩ : ∃ y, m[i] = y := ⟨_, rfl⟩
      rw [hx, hy] at hst hbp
      rw [hx] at hq1
      rw [hy] at hq2
      have i1 : ∀ W, (Instr.indexAt 27 (.slice ao n ca) (.int .i64 (i : Int))).run Tryz.prog W = .ok (.pointer (some ⟨g1, o1, none⟩)) W := by rw [<- hg1]; exact run_indexAt_adr slRat ao n ca .i64 i hha (by omega)
      have i2 : ∀ W, (Instr.indexAt 27 (.slice bo n cb) (.int .i64 (i : Int))).run Tryz.prog W = .ok (.pointer (some ⟨g2, o2, none⟩)) W := by rw [<- hg2]; exact run_indexAt_adr slRat bo n cb .i64 i hhb (by omega)
      obtain ⟨D, hD⟩ : ∃ D, dotN l m i = D := ⟨_, rfl⟩
      obtain ⟨D2, hD2⟩ : ∃ D2, dotN l m (i + 1) = D2 := ⟨_, rfl⟩
      rw [hD] at hq hst hbo
      rw [hD2] at hst
      have hD2' := hid hD2
      clear hx hy hg1 hg2 hD hD2
      have hE5d : Ext wr wr.drew := (ExtX.refl wr).drew
      have b05 := b0.ext0 hE5d
      have b15 := b1.ext0 hE5d
      have k00 := b15.cell 0 rfl
      have k01 := b15.cell 1 rfl
      have k02 := b15.cell 2 rfl
      obtain ⟨k10, k11, k12⟩ := hc1.out noY wr.drew hE5d rfl
      obtain ⟨k20, k21, k22⟩ := hc2.out noY wr.drew hE5d rfl
      have hXd := hXr.ext hE5d
      have hx5 : QV (mk (hidB X b 2) wr.drew) (.agg #[.bool s1, .slice p1 n1 q1, .slice d1 k1 e1]) x := mkx QV.mono hq1 hE5d
      have hy5 : QV (mk (hidB X b 2) wr.drew) (.agg #[.bool s2, .slice p2 n2 q2, .slice d2 k2 e2]) y := mkx QV.mono hq2 hE5d
      have hq5 : QV (mk (hidB X b 2) wr.drew) (.agg #[.bool s, .slice a n' c', .slice d kk e]) D := (mkx QC.mono hq hE5d).qv hbo.out
      clear hc1 hc2
      go_wp2_with fail
      go_region_with (first | (go_at_call 19; (with_reducible refine (rqmul (hidB X b 2) wr.drew _ _ _ _ hXd hx5 hy5).mono ?_); rintro ee w6 ⟨t1, u6, rfl, hu6⟩; obtain ⟨s6, a6, n6, c6, d6, k6, e6, rfl⟩ := hu6.shape; have hX6 := hXd.ext t1; have hq6 := mkx QV.mono hq5 t1; have hm6 := hu6.qv hbp.out; have b16 := b15.ext0 t1; have m0 := b16.cell 0 rfl; have m1 := b16.cell 1 rfl; have m2 := b16.cell 2 rfl) | (go_at_call 48; (with_reducible refine (rqadd (hidB X b 2) w6 _ _ _ _ hX6 hq6 hm6).mono ?_); rintro ee w7 ⟨t7, u7, rfl, hu7⟩; obtain ⟨s7, a7, n7, c7, d7, k7, e7, rfl⟩ := hu7.shape; rw [hst.out] at hu7; have b17 := b16.ext0 t7; have g0 := b17.cell 0 rfl; have g1' := b17.cell 1 rfl; have g2' := b17.cell 2 rfl; have f0 := b17.frozen 0; have f1 := b17.frozen 1; have f2 := b17.frozen 2))
      all_goals
        obtain ⟨z1, z2⟩ := b17.set3 (.bool s7) (.slice a7 n7 c7) (.slice d7 k7 e7)
        have h8 := QC.mono _ _ _ _ (le_store (lo := b) (nb := 2) z2 (by omega) (by omega)) hu7
        have b08 := ((b05.ext0 t1).ext0 t7).ext z2 (ob_other (by omega))
        have hE8 : Ext w _ := ExtX.box (hEr.trans (hE5d.trans (t1.trans t7))) z2 (by omega)
        have hX8 := (hX6.ext t7).ext z2
        rw [<- hD2'.out] at h8
        clear k00 k01 k02 k10 k11 k12 k20 k21 k22 m0 m1 m2 g0 g1' g2' f0 f1 f2 i1 i2
        go_wp2_with fail
        go_roundw
        case rel => exact ⟨i + 1, _, _, _, _, _, _, _, by go_num, by omega, b08, z1, h8, hX8, hE8⟩
        case measure => simp [intOf]; omega
    · have hin : i = n := by omega
      subst hin
      rw [hdot.out] at hq
      have k00 := b1.cell 0 rfl
      have k01 := b1.cell 1 rfl
      have k02 := b1.cell 2 rfl
      go_wp2_with ((with_reducible show wpList _ _ _ (⟨_, .store _ _ _, _, _, _, _⟩ :: _) _ _); refine st_storeBox stRat rfl rfl b0 rfl rfl (one3 _ _ _ _ _ _ _) ?_; intro w7 r1 r2)
      have h7 := QC.mono _ _ _ _ le_unbox (QC.mono _ _ _ _ (le_store r2 (by omega) (by omega)) hq)
      exact bodyPost_ret (results_box rfl rfl stRat r1 rfl) rfl ⟨ExtX.box hEr r2 (by omega), _, rfl, h7⟩
end Go.Proofs.YthipmbmjodhiiaaGreat
namespace Go.Proofs.YthipmbmjodhiiaaGreat
open Go.RowKit Go.Rep Go.Lim Go.Lin
def ShOut (w : World) (m : List (List Rat)) (e : Ending) (w' : World) : Prop := Ext w w' /\ ∃ a b : Nat, e = .returned (.tuple #[.int .i64 (a : Int), .int .i64 (b : Int), .bool (ptsB m)]) /\ (ptsB m = true -> a = m.length /\ b = colsL m)
theorem ptsB_no1 {α : Type} {m : List (List α)} (h : m.length < 1 \/ 64 < m.length) : ptsB m = false := by
  cases hp : ptsB m
  · rfl
  · have := ptsB_true.1 hp; omega
theorem ptsB_no2 {α : Type} {m : List (List α)} (i : Nat) (hi : i < m.length) (h : m[i].length ≠ colsL m) : ptsB m = false := by
  cases hp : ptsB m
  · rfl
  · exact absurd ((ptsB_true.1 hp).2.2.2.2 i hi) h
theorem ptsB_no3 {α : Type} {m : List (List α)} (h : colsL m < 1 \/ 3 < colsL m) : ptsB m = false := by
  cases hp : ptsB m
  · rfl
  · have := ptsB_true.1 hp; omega
set_option maxRecDepth 100000 in
theorem rshape_any {R : Mem -> Value -> Rat -> Prop} (_hR : Mono R) (X : Nat -> Bool) (w : World) (u : Value) (m : List (List Rat)) (hu : SlV (SlV R 3) 1 (mk X w) u m) (hl : m.length <= 1099511627776) : Calls Tryz.prog 62 #[u] w (ShOut w m) := by
  obtain ⟨ao, ca, rfl, hca, hsa⟩ := hu
  have hha := hsa.hd
  by_cases h1 : m.length < 1
  · have d1 : (m.length : Int) < 1 := by omega
    have hv := hid (ptsB_no1 (m := m) (.inl h1))
    go_enter Tryz.func62, Tryz.ntmps62
    go_wp2_with fail
    go_ret3
    exact ⟨ExtX.refl _, 0, 0, by rw [hv.out]; rfl, fun h => by rw [hv.out] at h; simp at h⟩
  by_cases h2 : 64 < m.length
  · have d1 : ¬ (m.length : Int) < 1 := by omega
    have d2 : (64 : Int) < (m.length : Int) := by omega
    have hv := hid (ptsB_no1 (m := m) (.inr h2))
    go_enter Tryz.func62, Tryz.ntmps62
    go_wp2_with fail
    go_ret3
    exact ⟨ExtX.refl _, 0, 0, by rw [hv.out]; rfl, fun h => by rw [hv.out] at h; simp at h⟩
  have d1 : ¬ (m.length : Int) < 1 := by omega
  have d2 : ¬ (64 : Int) < (m.length : Int) := by omega
  have h0 : 0 < m.length := by omega
  obtain ⟨n, hn⟩ : ∃ n, m.length = n := ⟨_, rfl⟩
  have hn' := hid hn
  obtain ⟨a2, c2, hX2, hc2, hcl2, hq2⟩ := hsa.row 0 h0
  have k10 := hc2.out noY w (ExtX.refl _) rfl
  have hcol := colsL_pos h0
  rw [<- hcol] at k10
  have hno2 := hid (fun i hi h => ptsB_no2 (m := m) i hi h)
  have hno3 := hid (fun h => ptsB_no3 (m := m) h)
  have hyes : Hid ((∀ q, q < n -> ∀ hq : q < m.length, m[q].length = colsL m) -> 1 <= colsL m -> colsL m <= 3 -> ptsB m = true) := hid fun h3 h4 h5 => ptsB_true.2 ⟨by omega, by omega, h4, h5, fun i hi => h3 i (by omega) hi⟩
  obtain ⟨y, hy⟩ : ∃ y, colsL m = y := ⟨_, rfl⟩
  have hy' := hid hy
  rw [hy] at k10 hno3 hyes
  have hn64 : n <= 64 := by omega
  have hn1 : 1 <= n := by omega
  rw [hn] at d1 d2 hha |-
  clear hcol hc2 hq2 hcl2 h1 h2 h0 hn hy hca
  go_enter Tryz.func62, Tryz.ntmps62
  go_wp2_with (with_reducible refine up_ix1 slRats (by omega) (by assumption) ?_)
  go_loop [22] (fun cc => ∃ i : Nat, cc = .int .i64 i /\ i <= n /\ Hid (∀ q, q < i -> ∀ hq : q < m.length, m[q].length = colsL m)) (fun cc => n - (intOf cc).toNat)
  case atStart => exact ⟨0, rfl, Nat.zero_le _, hid fun q hq => by omega⟩
  case round =>
    obtain ⟨i, rfl, hi, hok⟩ := hrel
    by_cases hlt : i < n
    · have hil : i < m.length := by rw [hn'.out]; exact hlt
      obtain ⟨a1, c1, hX1, hc1, hcl1, hq1⟩ := hsa.row i hil
      have k00 := hc1.out noY w (ExtX.refl _) rfl
      have hn2 := hid (hno2.out i hil)
      obtain ⟨x, hx⟩ : ∃ x, m[i].length = x := ⟨_, rfl⟩
      have hst : Hid (x = y -> ∀ hq : i < m.length, m[i].length = colsL m) := hid fun h hq => by rw [hx, hy'.out]; exact h
      rw [hx, hy'.out] at hn2
      rw [hx] at k00
      clear hx hc1 hq1 hcl1
      by_cases hxy : x = y
      · have e1 : ((x : Int) != (y : Int)) = false := bneF (by omega)
        have hst2 := hid (hst.out hxy)
        clear hxy
        go_wp2_with (with_reducible refine up_ix1 slRats (by omega) (by assumption) ?_)
        go_round
        case rel => exact ⟨i + 1, by go_num, by omega, hid (upto_succ hok.out hst2.out)⟩
        case measure => simp [intOf]; omega
      · have e1 : ((x : Int) != (y : Int)) = true := bneT (by omega)
        have hv := hid (hn2.out hxy)
        clear hxy
        go_wp2_with (with_reducible refine up_ix1 slRats (by omega) (by assumption) ?_)
        go_ret3
        exact ⟨ExtX.refl _, 0, 0, by rw [hv.out]; rfl, fun h => by rw [hv.out] at h; simp at h⟩
    · have hin : i = n := by omega
      subst hin
      have hy2 := hid (hyes.out fun q h1 h2 => (hok.out q h1 h2).trans hy'.out)
      clear hlt k10
      by_cases h1 : 1 <= y
      · have e1 : (1 : Int) <= (y : Int) := by omega
        by_cases h3 : y <= 3
        · have e2 : (y : Int) <= 3 := by omega
          have hv := hid (hy2.out h1 h3)
          go_wp2_with fail
          go_ret3
          exact ⟨ExtX.refl _, i, y, by rw [hv.out]; rfl, fun _ => ⟨hn'.out.symm, hy'.out.symm⟩⟩
        · have e2 : ¬ (y : Int) <= 3 := by omega
          have hv := hid (hno3.out (.inr (by omega)))
          go_wp2_with fail
          go_ret3
          exact ⟨ExtX.refl _, i, y, by rw [hv.out]; rfl, fun _ => ⟨hn'.out.symm, hy'.out.symm⟩⟩
      · have e1 : ¬ (1 : Int) <= (y : Int) := by omega
        have hv := hid (hno3.out (.inl (by omega)))
        go_wp2_with fail
        go_ret3
        exact ⟨ExtX.refl _, i, y, by rw [hv.out]; rfl, fun _ => ⟨hn'.out.symm, hy'.out.symm⟩⟩
end Go.Proofs.YthipmbmjodhiiaaGreat
namespace Go.Proofs.YthipmbmjodhiiaaGreat
open Go.RowKit Go.Rep Go.Lim Go.Lin
set_option maxRecDepth 100000 in
set_option maxHeartbeats 1600000 in
theorem rcount_any (X : Nat -> Bool) (w : World) (u v x : Value) (p : Mat) (y : List Rat) (us : Mat) (B C : Nat) (hX : HX X w) (hu : MV (mk X w) u p) (hv : RV (mk X w) v y) (hx : MV (mk X w) x us) (hp : p.length <= 1000) (hl : us.length <= 1000) (hpB : BM B p) (hyB : BR B y) (hC : BM C us) (hB : 1 <= B) (hC1 : 1 <= C) (hBC : 10 * B + 4 * C <= 68719476000) :
    Calls Tryz.prog 30 #[u, v, x] w (NEOut w (cntV p y us) (okE (cntOk p y us))) := by
  have hfi := rshape_any QV.mono X w u p hu (by omega)
  have hv0 := hv
  obtain ⟨va, vca, rfl, hvca, hva⟩ := hv
  obtain ⟨xa, xca, rfl, hxca, hxa⟩ := hx
  have hhx := hxa.hd
  cases hpts : ptsB p
  · have hz := cntOk_no1 (us := us) (y := y) (p := p) (by rw [hpts]; rfl)
    have hv1 : Hid (cntV p y us = 0) := hid (by unfold cntV; rw [hz]; rfl)
    have hv2 : Hid (okE (cntOk p y us) = 6) := hid (by rw [hz]; rfl)
    unfold ShOut at hfi
    rw [hpts] at hfi
    clear hz hpts
    go_enter Tryz.func30, Tryz.ntmps30
    go_wp2_with fail
    refine hfi.mono ?_
    rintro e w1 ⟨hE1, a, b, rfl, hab⟩
    clear hfi
    go_wp2_with fail
    go_ret2
    exact ⟨hE1, by rw [hv1.out, hv2.out]; rfl⟩
  by_cases hyc : y.length = colsL p
  rotate_left 1
  · have hz := cntOk_no1 (us := us) (y := y) (p := p) (by rw [hpts, decide_eq_false hyc]; rfl)
    have hv1 : Hid (cntV p y us = 0) := hid (by unfold cntV; rw [hz]; rfl)
    have hv2 : Hid (okE (cntOk p y us) = 6) := hid (by rw [hz]; rfl)
    unfold ShOut at hfi
    rw [hpts] at hfi
    clear hz hpts
    obtain ⟨c, hc⟩ : ∃ c, colsL p = c := ⟨_, rfl⟩
    obtain ⟨yl, hyl⟩ : ∃ yl, y.length = yl := ⟨_, rfl⟩
    rw [hc] at hfi
    rw [hc, hyl] at hyc
    rw [hyl] at hvca |-
    clear hc hyl
    go_enter Tryz.func30, Tryz.ntmps30
    go_wp2_with fail
    refine hfi.mono ?_
    rintro e w1 ⟨hE1, a, b, rfl, hab⟩
    obtain ⟨rfl, rfl⟩ := hab trivial
    have d1 : ((yl : Int) != (b : Int)) = true := bneT (by omega)
    clear hfi hyc
    go_wp2_with fail
    go_ret2
    exact ⟨hE1, by rw [hv1.out, hv2.out]; rfl⟩
  have hok1 : (ptsB p && decide (y.length = colsL p)) = true := by rw [hpts, decide_eq_true hyc]; rfl
  have hrow := ptsB_row hpts
  obtain ⟨hp1, hp64, hc1, hc3, _⟩ := ptsB_true.1 hpts
  obtain ⟨c, hc⟩ : ∃ c, colsL p = c := ⟨_, rfl⟩
  rw [hc] at hrow hyc hc1 hc3
  obtain ⟨M, hM⟩ : ∃ M, fromM c p y = M := ⟨_, rfl⟩
  have hMs : Shp p.length c M := by rw [<- hM]; exact fromM_shp c p y
  have hcen := hid (fun w' (h : Ext w w') => rfrom25 X w' u (.slice va y.length vca) p y c (hX.ext h) (mkx MV.mono hu h) (mkx RV.mono hv0 h) hrow hyc (by omega) hp)
  have hMB : BM (2 * B + 1) M := by
    rw [<- hM]
    exact fromM_bm (fun r hr q hq => Nat.le_trans (hpB r hr q hq) (by omega)) (fun q hq => Nat.le_trans (hyB q hq) (by omega)) (by omega)
  have hok := hid (fun h => cntOk_yes (us := us) hok1 h)
  have hno := hid (fun i hi h => cntOk_no2 (p := p) (y := y) (us := us) i hi h)
  have hval : Hid (cntOk p y us = true -> cntV p y us = lexc c (vecs us) (vecs M)) := hid fun h => by unfold cntV; rw [h, hc, hM]; rfl
  have hbad : Hid (cntOk p y us = false -> cntV p y us = 0) := hid fun h => by unfold cntV; rw [h]; rfl
  unfold ShOut at hfi
  rw [hpts, hc] at hfi
  rw [hM] at hcen
  rw [hyc] at hcen hvca hno |-
  obtain ⟨K, hK⟩ : ∃ K, cntV p y us = K := ⟨_, rfl⟩
  obtain ⟨O, hO⟩ : ∃ O, cntOk p y us = O := ⟨_, rfl⟩
  have hyc' := hid hyc
  rw [hK, hO] at hval
  rw [hK, hO] at hbad
  rw [hO] at hok hno
  rw [hK, hO]
  obtain ⟨n, hn⟩ : ∃ n, us.length = n := ⟨_, rfl⟩
  have hn' := hid hn
  have hC' := hid hC
  have hMs' := hid hMs
  have hMB' := hid hMB
  rw [hn] at hl hxca hhx |-
  have hMl : M.length <= 64 := by rw [hMs.1]; exact hp64
  clear hK hO hM hpts hrow hyc hC hMs hMB hn hv0 hok1 hpB hyB hu hc
  go_enter Tryz.func30, Tryz.ntmps30
  go_wp2_with fail
  refine hfi.mono ?_
  rintro e w1 ⟨hE1, a, b, rfl, hab⟩
  obtain ⟨rfl, rfl⟩ := hab trivial
  clear hfi
  have hX1 := hX.ext hE1
  have hxa1 := hxa.mono RV.mono (mk_ext hE1)
  go_wp2_with fail
  go_loop [35] (fun cc => ∃ i : Nat, cc = .int .i64 i /\ i <= n /\ Hid (∀ q, q < i -> ∀ hq : q < us.length, us[q].length = b)) (fun cc => n - (intOf cc).toNat)
  case atStart => exact ⟨0, rfl, Nat.zero_le _, hid fun q hq => by omega⟩
  case round =>
    obtain ⟨i, rfl, hi, hrl⟩ := hrel
    by_cases hlt : i < n
    · have hil : i < us.length := by rw [hn'.out]; exact hlt
      obtain ⟨a1, c1, hX1, hcc1, hcl1, hq1⟩ := hxa1.row i hil
      have k00 := hcc1.out noY w1 (ExtX.refl _) rfl
      obtain ⟨r, hr⟩ : ∃ r, us[i].length = r := ⟨_, rfl⟩
      have hno1 := hid (hno.out i hil)
      have hnx : Hid (r = b -> ∀ hq : i < us.length, us[i].length = b) := hid fun h hq => by rw [hr]; exact h
      rw [hr] at k00 hno1
      clear hr hcc1 hq1 hcl1
      by_cases hrc : r = b
      · have d1 : ((r : Int) != (b : Int)) = false := bneF (by omega)
        have hn2 := hid (hnx.out hrc)
        clear hrc
        go_wp2_with (with_reducible refine up_ix1 slRats (by omega) (by assumption) ?_)
        go_round
        case rel => exact ⟨i + 1, by go_num, by omega, hid (upto_succ hrl.out hn2.out)⟩
        case measure => simp [intOf]; omega
      · have d1 : ((r : Int) != (b : Int)) = true := bneT (by omega)
        have hO : Hid (O = false) := hid (hno1.out hrc)
        have hK : Hid (K = 0) := hid (hbad.out hO.out)
        clear hrc
        go_wp2_with (with_reducible refine up_ix1 slRats (by omega) (by assumption) ?_)
        go_ret2
        exact ⟨hE1, by rw [hK.out, hO.out]; rfl⟩
    · have hin : i = n := by omega
      subst hin
      have hO : Hid (O = true) := hid (hok.out fun q hq => by rw [hyc'.out]; exact hrl.out q (by rw [hn'.out] at hq; exact hq) hq)
      have hKv : Hid (K = lexc b (vecs us) (vecs M)) := hid (hval.out hO.out)
      have hul : Hid (∀ q (hq : q < us.length), us[q].length = b) := hid fun q hq => hrl.out q (by rw [hn'.out] at hq; exact hq) hq
      clear hlt
      go_wp2_with fail
      refine (hcen.out _ hE1).mono ?_
      rintro e w2 ⟨hE2, _, rfl, ma, mca, rfl, hmca, hma⟩
      have hX2 := hX1.ext hE2
      have hhm := hma.hd
      have hxa2 := hxa1.mono RV.mono (mk_ext hE2)
      obtain ⟨m, hm⟩ : ∃ m, M.length = m := ⟨_, rfl⟩
      have hm' := hid hm
      rw [hm] at hMl hmca hhm |-
      clear hm hcen hval hbad hok hno hrl
      obtain ⟨wo, hwo⟩ : ∃ wo, wo = w2 := ⟨_, rfl⟩
      subst hwo
      go_wp2_with fail
      go_loopw [13, 48] (fun nn cc wr => ∃ j : Nat, cc = .int .i64 j /\ j <= m /\ nn = .int .i64 (lexN b (vecs us) (vecs M) j : Int) /\ Ext wo wr) (fun _ cc _ => m - (intOf cc).toNat)
      case atStart => exact ⟨0, rfl, Nat.zero_le _, by rw [lexN_zero]; rfl, ExtX.refl _⟩
      case round =>
        obtain ⟨j, rfl, hj, rfl, hEj⟩ := hrel
        by_cases hlj : j < m
        · have hjM : j < M.length := by rw [hm'.out]; exact hlj
          have hsr := hma.mono RC.mono (mk_ext hEj)
          obtain ⟨a1, c1, hX1, hcc1, hcl1, hq1⟩ := hsr.row j hjM
          have k00 := hcc1.out noY wr (ExtX.refl _) rfl
          have hzl := hid (hMs'.out.2 M[j] (List.getElem_mem _))
          have hzB := hid (hMB'.out M[j] (List.getElem_mem _))
          have hle := lexN_le b (vecs us) (vecs M) j
          have hsu : Hid (∀ t : Bool, lexOk b (vecs us) (vec M[j]) = t -> lexN b (vecs us) (vecs M) (j + 1) = lexN b (vecs us) (vecs M) j + (if t then 1 else 0)) := hid fun t hb => by
            have h1 : j < (vecs M).length := by simpa [vecs] using hjM
            rw [lexN_succ h1]
            have h2 : (vecs M)[j] = vec M[j] := by simp [vecs]
            rw [h2, hb]
          obtain ⟨z, hz⟩ : ∃ z, M[j] = z := ⟨_, rfl⟩
          obtain ⟨L, hL⟩ : ∃ L, lexN b (vecs us) (vecs M) j = L := ⟨_, rfl⟩
          have hL' := hid hL
          rw [hz] at k00 hzl hzB hsu hq1 hcl1
          rw [hL] at hsu hle |-
          have hz0 : RV (mk X wr) (.slice a1 b c1) z := by
            have := RC.rv (u := .slice a1 b c1) ⟨a1, c1, by rw [hzl.out], hcl1, hq1⟩ (fun q hq => Nat.le_trans (hzB.out q hq) (by omega))
            exact this
          rw [hzl.out] at k00 hcl1
          clear hcc1 hz hL hq1
          go_wp2_with (with_reducible refine up_ix1 slRats (by omega) (by assumption) ?_)
          obtain ⟨wi, hwi⟩ : ∃ wi, wi = wr := ⟨_, rfl⟩
          subst hwi
          go_loopw [16, 54] (fun nn cc wx => ∃ k : Nat, cc = .int .i64 k /\ k <= i /\ Hid ((nn = .int .i64 0 /\ zeroTo b (vecs us) (vec z) k) \/ (nn = .int .i64 1 /\ lexOk b (vecs us) (vec z) = true) \/ (nn = .int .i64 (-1) /\ lexOk b (vecs us) (vec z) = false)) /\ Ext wi wx) (fun _ cc _ => i - (intOf cc).toNat)
          case atStart => exact ⟨0, rfl, Nat.zero_le _, hid (.inl ⟨rfl, fun q hq => by omega⟩), ExtX.refl _⟩
          case round =>
            obtain ⟨k, rfl, hk, hzt, hEk⟩ := hrel
            clear k00
            have hEx := hEj.trans hEk
            have hXx := hX2.ext hEx
            have hzx := mkx RV.mono hz0 hEk
            by_cases hlk : k < i
            · have hku : k < us.length := by rw [hn'.out]; exact hlk
              have hsu2 := hxa2.mono RV.mono (mk_ext hEx)
              obtain ⟨a3, c3, hX3, hcc3, hcl3, hq3⟩ := hsu2.row k hku
              have k00 := hcc3.out noY wr (ExtX.refl _) rfl
              have hul2 := hid (hul.out k hku)
              rw [hul2.out] at k00
              rcases hzt.out with ⟨rfl, hz0'⟩ | ⟨rfl, hz1⟩ | ⟨rfl, hz1⟩
              · have hkv : k < (vecs us).length := by simpa [vecs] using hku
                have hgv : (vecs us)[k] = vec us[k] := by simp [vecs]
                have hpos := hid (fun h => lexOk_pos (c := b) (v := vec z) hkv hz0' h)
                have hneg := hid (fun h => lexOk_neg (c := b) (v := vec z) hkv hz0' h)
                have hzer : Hid (dot b (vec us[k]) (vec z) = 0 -> zeroTo b (vecs us) (vec z) (k + 1)) := hid fun h => zeroTo_succ hz0' fun hi => by rw [hgv]; exact h
                rw [hgv] at hpos hneg
                have hdv := hid (dot_vec (u := us[k]) (z := z) hul2.out)
                have hCk := hC'.out us[k] (List.getElem_mem _)
                have hdb := dot_bounds2 (l := us[k]) (m := z) hCk hzB.out hC1 (by omega) (by
                  rw [hul2.out]
                  have : b * (C + (2 * B + 1) + 1) <= 3 * (C + (2 * B + 1) + 1) := Nat.mul_le_mul_right _ hc3
                  omega)
                have hdot := rdot23_any X wr (.slice a3 us[k].length c3) (.slice a1 b c1) us[k] z hXx ⟨a3, c3, rfl, hcl3, hq3⟩ hzx (by rw [hul2.out]; omega) (by rw [hzl.out, hul2.out]) hdb.1 hdb.2
                have hdq : Hid (hq (dotL us[k] z) <= 68719476736) := hid (hdb.1 _ (Nat.le_refl _))
                rw [<- hdv.out] at hpos hneg hzer
                rw [hul2.out] at hdot
                obtain ⟨D, hD⟩ : ∃ D, dotL us[k] z = D := ⟨_, rfl⟩
                rw [hD] at hpos hneg hzer hdot hdq
                have hnext : Hid (∃ g : Int, D.num.sign = g /\ ((Value.int .i64 g = .int .i64 0 /\ zeroTo b (vecs us) (vec z) (k + 1)) \/ (Value.int .i64 g = .int .i64 1 /\ lexOk b (vecs us) (vec z) = true) \/ (Value.int .i64 g = .int .i64 (-1) /\ lexOk b (vecs us) (vec z) = false))) := hid (by
                  rcases sign_cases D with ⟨hs, hsg⟩ | ⟨hs, hsg⟩ | ⟨hs, hsg⟩
                  · exact ⟨_, hsg, .inr (.inl ⟨rfl, hpos.out hs⟩)⟩
                  · exact ⟨_, hsg, .inl ⟨rfl, hzer.out hs⟩⟩
                  · exact ⟨_, hsg, .inr (.inr ⟨rfl, hneg.out hs⟩)⟩)
                clear hcc3 hq3 hcl3 hgv hkv hdb hCk hD hpos hneg hzer hz0' hzt
                go_wp2_with (with_reducible refine up_ix1 slRats (by omega) (by assumption) ?_)
                refine hdot.mono ?_
                rintro e w5 ⟨hE5, u5, rfl, hu5⟩
                go_wp2_with fail
                refine (rqsign X w5 u5 D (hXx.ext hE5) (hu5.qv hdq.out)).mono ?_
                rintro e w6 ⟨hE6, rfl⟩
                obtain ⟨g, hg, hgo⟩ := hnext.out
                have hgo' := hid hgo
                rw [hg]
                have hE9 := hEk.trans (hE5.trans hE6)
                clear k00 hg hgo hnext
                go_wp2_with fail
                go_roundw
                case rel => exact ⟨k + 1, by go_num, by omega, hgo', hE9⟩
                case measure => simp [intOf]; omega
              · clear hcc3 hq3 hcl3 hzt
                have hz1' := hid hz1
                clear hz1
                go_wp2_with (with_reducible refine up_ix1 slRats (by omega) (by assumption) ?_)
                go_roundw
                case rel => exact ⟨k + 1, by go_num, by omega, hid (.inr (.inl ⟨rfl, hz1'.out⟩)), hEk⟩
                case measure => simp [intOf]; omega
              · clear hcc3 hq3 hcl3 hzt
                have hz1' := hid hz1
                clear hz1
                go_wp2_with (with_reducible refine up_ix1 slRats (by omega) (by assumption) ?_)
                go_roundw
                case rel => exact ⟨k + 1, by go_num, by omega, hid (.inr (.inr ⟨rfl, hz1'.out⟩)), hEk⟩
                case measure => simp [intOf]; omega
            · have hki : k = i := by omega
              have hall : Hid (zeroTo b (vecs us) (vec z) k -> lexOk b (vecs us) (vec z) = true) := hid fun h => lexOk_all fun q hq hl => h q (by
                have : (vecs us).length = us.length := by simp [vecs]
                have := hn'.out
                omega) hl
              rcases hzt.out with ⟨rfl, hz0'⟩ | ⟨rfl, hz1⟩ | ⟨rfl, hz1⟩
              · have hnx := hid (hsu.out true (hall.out hz0'))
                have hnx2 : Hid (Value.int .i64 ((L + 1 : Nat) : Int) = .int .i64 (lexN b (vecs us) (vecs M) (j + 1) : Int)) := hid (by rw [hnx.out]; rfl)
                clear hzt hz0'
                go_wp2_with fail
                go_roundw
                case rel => exact ⟨j + 1, by go_num, by omega, by rw [<- hnx2.out]; go_num, hEx⟩
                case measure => simp [intOf]; omega
              · have hnx := hid (hsu.out true hz1)
                have hnx2 : Hid (Value.int .i64 ((L + 1 : Nat) : Int) = .int .i64 (lexN b (vecs us) (vecs M) (j + 1) : Int)) := hid (by rw [hnx.out]; rfl)
                clear hzt hz1
                go_wp2_with fail
                go_roundw
                case rel => exact ⟨j + 1, by go_num, by omega, by rw [<- hnx2.out]; go_num, hEx⟩
                case measure => simp [intOf]; omega
              · have hnx := hid (hsu.out false hz1)
                have hnx2 : Hid (Value.int .i64 (L : Int) = .int .i64 (lexN b (vecs us) (vecs M) (j + 1) : Int)) := hid (by rw [hnx.out]; rfl)
                clear hzt hz1
                go_wp2_with fail
                go_roundw
                case rel => exact ⟨j + 1, by go_num, by omega, hnx2.out, hEx⟩
                case measure => simp [intOf]; omega
        · have hjm : j = m := by omega
          have hfull : Hid (lexN b (vecs us) (vecs M) j = K) := hid (by
            rw [hKv.out, lexN_full (by have := hm'.out; simp [vecs]; omega)])
          go_wp2_with fail
          go_ret2
          exact ⟨hE1.trans (hE2.trans hEj), by rw [hfull.out, hO.out]; rfl⟩
end Go.Proofs.YthipmbmjodhiiaaGreat
namespace Go.Rep
open Go.RowKit Go.Lim
abbrev RawQ := Bool × List Nat × List Nat
def QR (h : Mem) (u : Value) (x : RawQ) : Prop := ∃ ao c bo e, u = .agg #[.bool x.1, .slice ao x.2.1.length c, .slice bo x.2.2.length e] /\ x.2.1.length <= c /\ x.2.2.length <= e /\ Dig x.2.1 /\ Dig x.2.2 /\ x.2.1.length <= 9223372036854775807 /\ x.2.2.length <= 9223372036854775807 /\ Sl (NatIn .u32) 1 h ao x.2.1 /\ Sl (NatIn .u32) 1 h bo x.2.2
theorem QR.mono : Mono QR := by rintro h h' u x hl ⟨ao, c, bo, e, rfl, h1, h2, h3, h4, h5, h6, h7, h8⟩; exact ⟨ao, c, bo, e, rfl, h1, h2, h3, h4, h5, h6, h7.mono (NatIn.mono _) hl, h8.mono (NatIn.mono _) hl⟩
theorem QR.elem : Elem QR 3 := ⟨QR.mono, by rintro h u x ⟨ao, c, bo, e, rfl, _⟩; rfl, by
  rintro h u x ⟨ao, c, bo, e, rfl, _⟩ v hv
  simp [cellsL, Value.cells] at hv
  rcases hv with rfl | rfl | rfl <;> rfl, by decide⟩
theorem QR.shape {h : Mem} {u : Value} {x : RawQ} (hu : QR h u x) : ∃ ao c bo e, u = .agg #[.bool x.1, .slice ao x.2.1.length c, .slice bo x.2.2.length e] := by
  obtain ⟨ao, c, bo, e, rfl, _⟩ := hu; exact ⟨_, _, _, _, rfl⟩
theorem QR.agg : ∀ h u y, QR h u y -> ∃ cs, u = .agg cs := by rintro h u x ⟨ao, c, bo, e, rfl, _⟩; exact ⟨_, rfl⟩
noncomputable def valQ (x : RawQ) : Rat := qval x.1 x.2.1 x.2.2
abbrev Few (k : Nat) (x : RawQ) : Prop := x.2.1.length <= k /\ x.2.2.length <= k
theorem QR.qv {h : Mem} {u : Value} {x : RawQ} (hu : QR h u x) (hf : Few 68719476736 x) : QV h u (valQ x) := by
  obtain ⟨ao, c, bo, e, rfl, h1, h2, h3, h4, _, _, h7, h8⟩ := hu
  exact ⟨_, ao, c, _, bo, e, _, rfl, h1, h2, h3, h4, hf.1, hf.2, h7, h8, rfl⟩
theorem QR.hq {h : Mem} {u : Value} {x : RawQ} {k : Nat} (hu : QR h u x) (hf : Few k x) (hk : 1 <= k) : hq (valQ x) <= k := by
  obtain ⟨ao, c, bo, e, rfl, h1, h2, h3, h4, _, _, h7, h8⟩ := hu
  exact qval_hq _ _ _ k h3 h4 hf.1 hf.2 hk
theorem Sl.qvR {h : Mem} {ao : Option Addr} {l : List RawQ} (s : Sl QR 3 h ao l) (hf : ∀ x ∈ l, Few 68719476736 x) : Sl QV 3 h ao (l.map valQ) :=
  ⟨fun hp => s.1 (by simpa using hp), fun i hi => by
    have hi' : i < l.length := by simpa using hi
    obtain ⟨u, h1, h2, h3⟩ := s.2 i hi'
    exact ⟨u, h1, h2, by rw [List.getElem_map]; exact h3.qv (hf _ (List.getElem_mem _))⟩⟩
theorem Sl.brR {h : Mem} {ao : Option Addr} {l : List RawQ} {k : Nat} (s : Sl QR 3 h ao l) (hf : ∀ x ∈ l, Few k x) (hk : 1 <= k) : BR k (l.map valQ) := fun q hq => by
  obtain ⟨x, hx, rfl⟩ := List.mem_map.1 hq
  obtain ⟨i, hi, rfl⟩ := List.getElem_of_mem hx
  obtain ⟨u, h1, h2, h3⟩ := s.2 i hi
  exact h3.hq (hf _ (List.getElem_mem _)) hk
abbrev RR : Mem -> Value -> List RawQ -> Prop := SlV QR 3
abbrev MR : Mem -> Value -> List (List RawQ) -> Prop := SlV RR 1
theorem RR.mono : Mono RR := SlV.mono QR.mono 3
theorem RR.elem : Elem RR 1 := SlV.elem QR.elem
theorem MR.mono : Mono MR := SlV.mono RR.mono 1
theorem RR.rv {h : Mem} {u : Value} {l : List RawQ} (hu : RR h u l) (hf : ∀ x ∈ l, Few 68719476736 x) : RV h u (l.map valQ) := by
  obtain ⟨ao, c, rfl, h1, h2⟩ := hu
  exact ⟨ao, c, by rw [List.length_map], by rw [List.length_map]; exact h1, h2.qvR hf⟩
theorem RR.br {h : Mem} {u : Value} {l : List RawQ} {k : Nat} (hu : RR h u l) (hf : ∀ x ∈ l, Few k x) (hk : 1 <= k) : BR k (l.map valQ) := by
  obtain ⟨ao, c, rfl, h1, h2⟩ := hu
  exact h2.brR hf hk
noncomputable def valM (m : List (List RawQ)) : List (List Rat) := m.map fun r => r.map valQ
theorem MR.mv {h : Mem} {u : Value} {m : List (List RawQ)} (hu : MR h u m) (hf : ∀ r ∈ m, ∀ x ∈ r, Few 68719476736 x) : MV h u (valM m) := by
  obtain ⟨ao, c, rfl, h1, h2⟩ := hu
  refine ⟨ao, c, by rw [valM, List.length_map], by rw [valM, List.length_map]; exact h1, fun hp => h2.1 (by simpa [valM] using hp), fun i hi => ?_⟩
  have hi' : i < m.length := by simpa [valM] using hi
  obtain ⟨u, k1, k2, k3⟩ := h2.2 i hi'
  exact ⟨u, k1, k2, by simp only [valM, List.getElem_map]; exact RR.rv k3 (hf _ (List.getElem_mem _))⟩
theorem MR.bm {h : Mem} {u : Value} {m : List (List RawQ)} {k : Nat} (hu : MR h u m) (hf : ∀ r ∈ m, ∀ x ∈ r, Few k x) (hk : 1 <= k) : BM k (valM m) := fun r hr => by
  obtain ⟨ao, c, rfl, h1, h2⟩ := hu
  obtain ⟨y, hy, rfl⟩ := List.mem_map.1 hr
  obtain ⟨i, hi, rfl⟩ := List.getElem_of_mem hy
  obtain ⟨u, k1, k2, k3⟩ := h2.2 i hi
  exact RR.br k3 (hf _ (List.getElem_mem _)) hk
end Go.Rep
namespace Go.Proofs.YthipmbmjodhiiaaGreat
open Go.ChangeShapes Go.WideShapes Go.ChangeAt Go.RowKit Go.Rep Go.Deep Go.Lim
section
variable {H : Type} {enc : TypeId × Value -> H} {w : World} {base : Nat} {spare : Nat -> Bool} {held : Bool}
theorem slice_of {α : Type} {R : Mem -> Value -> α -> Prop} {t e : TypeId} {sz : Nat} (ht : Tryz.prog.underlying t = some (.slice e)) (hC : Tryz.prog.cellsOf e = sz) (hz : 0 < sz) (hsize : ∀ h u x, R h u x -> u.cells.size = sz)
    (hel : ∀ (n : Nat) (cs : List Value) (y : DataW H × List MemPlace), cs.length = sz -> DataW.trod enc Tryz.prog w base spare held n e cs = some y -> ∃ u x, cellsL u = cs /\ R w.cell? u x)
    {fuel : Nat} {v : Value} {x : DataW H × List MemPlace} (h : DataW.trod enc Tryz.prog w base spare held fuel t [v] = some x) :
    ∃ (a : Option Addr) (L : List α) (cap : Nat), v = .slice a L.length cap /\ L.length <= cap /\ cap <= 9223372036854775807 /\ Sl R sz w.cell? a L := by
  rcases open_slice ht h with ⟨hcs, _⟩ | ⟨x, len, c, m, n, D, Pl, hcs, _, hl, hm, hmm, _, hi⟩
  · exact ⟨none, [], 0, by simpa using hcs, by simp, by simp, Sl.nil _ _ _ _⟩
  · have hml : len <= m := by rw [hmm]; split <;> omega
    have hmax : c <= 9223372036854775807 := by simpa [maxLen] using hm
    have key : ∀ k, k <= len -> ∃ L : List α, L.length = k /\ ∀ i (hi : i < L.length), ∃ u, u.cells.size = sz /\ (∀ j (hj : j < u.cells.size), w.cell? (x.add (i * sz + j)) = some u.cells[j]) /\ R w.cell? u L[i] := by
      intro k
      induction k with
      | zero => intro _; exact ⟨[], rfl, by simp⟩
      | succ k ih =>
        intro hk
        obtain ⟨L, h1, h3⟩ := ih (by omega)
        obtain ⟨cs', hc, ht'⟩ := hi k (by omega)
        rw [hC] at hc
        obtain ⟨_, hcl, hat⟩ := World.cells?_some hc
        obtain ⟨u, y, hu, hR⟩ := hel n cs' _ hcl ht'
        refine ⟨L ++ [y], by simp [h1], fun i hi => ?_⟩
        by_cases hik : i < L.length
        · obtain ⟨u, q1, q2, q3⟩ := h3 i hik
          exact ⟨u, q1, q2, by simpa [List.getElem_append_left hik] using q3⟩
        · have hik2 : i = k := by simp at hi; omega
          subst hik2
          refine ⟨u, hsize _ _ _ hR, fun j hj => ?_, ?_⟩
          · have hj2 : j < sz := by rw [hsize _ _ _ hR] at hj; exact hj
            have h5 := hat j (by omega)
            rw [Go.Deep.add_add] at h5
            rw [h5]
            have h6 : cs'[j]? = (cellsL u)[j]? := by rw [hu]
            rw [h6]
            simp [cellsL, hj]
          · simp only [h1.symm, List.getElem_concat_length]
            exact hR
    obtain ⟨L, h1, h3⟩ := key len (Nat.le_refl _)
    refine ⟨some x, L, c, by rw [h1]; simpa using hcs, by omega, by omega, ⟨fun h0 => ?_, fun i hi => ?_⟩⟩
    · obtain ⟨u, q1, q2, _⟩ := h3 0 h0
      obtain ⟨_, b, off, hx⟩ := adr_some (by simpa using q2 0 (by omega))
      exact ⟨b, off, by rw [hx]⟩
    · obtain ⟨u, q1, q2, q3⟩ := h3 i hi
      obtain ⟨v, p1, p2, _⟩ := h3 0 (by omega)
      have ha := (adr_some (by simpa using p2 0 (by omega))).1
      exact ⟨u, q1, fun j hj => by rw [<- ha]; exact q2 j hj, q3⟩
theorem u32s_of {fuel : Nat} {v : Value} {x : DataW H × List MemPlace} (h : DataW.trod enc Tryz.prog w base spare held fuel 30 [v] = some x) :
    ∃ (a : Option Addr) (l : List Nat) (cap : Nat), v = .slice a l.length cap /\ l.length <= cap /\ l.length <= 9223372036854775807 /\ Dig l /\ Sl (NatIn .u32) 1 w.cell? a l := by
  rcases open_ints Tryz.underlying30 Tryz.underlying103 (by kernel_rfl) h with ⟨hcs, _⟩ | ⟨x, len, c, zs, hcs, _, hl, hm, hz, _, hcell, hwf⟩
  · exact ⟨none, [], 0, by simpa using hcs, by simp, by simp, by simp [Dig], Sl.nil _ _ _ _⟩
  · have hzl : len <= zs.length := by
      rw [hz]; split <;> omega
    have hr : ∀ n ∈ zs, 0 <= n /\ n < 4294967296 := fun n hn => by
      have := hwf n hn
      unfold Lit.wf at this
      have : 0 <= n /\ n <= 4294967295 := by simpa [IntKind.min, IntKind.max, IntKind.signed, IntKind.bits] using this
      omega
    have hlen : ((zs.take len).map Int.toNat).length = len := by simp; omega
    have hmax : c <= 9223372036854775807 := by simpa [maxLen] using hm
    refine ⟨some x, (zs.take len).map Int.toNat, c, by rw [hlen]; simpa using hcs, by omega, by omega, fun d hd => ?_, fun h0 => ?_, fun i hi => ?_⟩
    · obtain ⟨z, hz1, rfl⟩ := List.mem_map.1 hd
      have := hr z (List.mem_of_mem_take hz1)
      rw [B_eq]
      omega
    · obtain ⟨_, b, off, hx⟩ := adr_some (hcell 0 (by omega))
      exact ⟨b, off, by rw [hx]⟩
    · have hi' : i < zs.length := by omega
      have hil : i < len := by omega
      refine ⟨.int .u32 (((zs.take len).map Int.toNat)[i] : Nat), rfl, fun j hj => ?_, rfl⟩
      have hj0 : j = 0 := by simp [Value.cells] at hj; exact hj
      subst hj0
      have h1 := hcell i hi'
      have h2 := (adr_some (hcell 0 (by omega))).1 i
      rw [h2] at h1
      have h3 := hr zs[i] (List.getElem_mem _)
      simp only [Nat.mul_one, Nat.add_zero, List.getElem_map, List.getElem_take]
      rw [h1]
      simp [List.getD_eq_getElem?_getD, hi', Value.cells]
      omega
theorem rat_of {fuel : Nat} {cs : List Value} {x : DataW H × List MemPlace} (hl : cs.length = 3) (h : DataW.trod enc Tryz.prog w base spare held fuel 34 cs = some x) : ∃ u y, cellsL u = cs /\ QR w.cell? u y := by
  obtain ⟨ys, n', hn', hy, hlen, hyl, hf⟩ := DataW.trod_struct Tryz.underlying34 h
  have c1 : Tryz.prog.cellsOf 32 = 2 := by kernel_rfl
  have c2 : Tryz.prog.cellsOf 30 = 1 := by kernel_rfl
  have c3 : Tryz.prog.cellsOf 4 = 1 := by kernel_rfl
  have f0 : DataW.trod enc Tryz.prog w base spare held n' 32 ((cs.drop 0).take (Tryz.prog.cellsOf 32)) = ys[0]? := hf 0 _ rfl
  have f1 : DataW.trod enc Tryz.prog w base spare held n' 30 ((cs.drop 2).take (Tryz.prog.cellsOf 30)) = ys[1]? := hf 1 _ rfl
  have hyl2 : ys.length = 2 := hyl
  obtain ⟨a, b, c, rfl⟩ : ∃ a b c, cs = [a, b, c] := by
    rcases cs with _ | ⟨a, _ | ⟨b, _ | ⟨c, _ | ⟨d, r⟩⟩⟩⟩
    · simp at hl
    · simp at hl
    · simp at hl
    · exact ⟨a, b, c, rfl⟩
    · simp at hl
  rw [c1] at f0
  rw [c2] at f1
  rw [List.getElem?_eq_getElem (by omega)] at f0 f1
  obtain ⟨zs, n2, _, _, _, hzl, hg⟩ := DataW.trod_struct Tryz.underlying32 f0
  have g0 : DataW.trod enc Tryz.prog w base spare held n2 4 (([a, b].drop 0).take (Tryz.prog.cellsOf 4)) = zs[0]? := hg 0 _ rfl
  have g1 : DataW.trod enc Tryz.prog w base spare held n2 30 (([a, b].drop 1).take (Tryz.prog.cellsOf 30)) = zs[1]? := hg 1 _ rfl
  have hzl2 : zs.length = 2 := hzl
  rw [c3] at g0
  rw [c2] at g1
  rw [List.getElem?_eq_getElem (by omega)] at g0 g1
  obtain ⟨a1, m, k1, e1, p1, p2, p3, p4⟩ := u32s_of g1
  obtain ⟨a2, d, k2, e2, q1, q2, q3, q4⟩ := u32s_of f1
  obtain ⟨s, hs, _⟩ := DataW.trod_bool Tryz.underlying4 g0
  have hs : a = .bool s := by simpa using hs
  subst hs e1 e2
  exact ⟨.agg #[.bool s, .slice a1 m.length k1, .slice a2 d.length k2], (s, m, d), rfl, a1, k1, a2, k2, rfl, p1, q1, p3, q3, p2, q2, p4, q4⟩
theorem rats_of {fuel : Nat} {v : Value} {x : DataW H × List MemPlace} (h : DataW.trod enc Tryz.prog w base spare held fuel 27 [v] = some x) :
    ∃ (a : Option Addr) (L : List RawQ) (cap : Nat), v = .slice a L.length cap /\ L.length <= cap /\ cap <= 9223372036854775807 /\ Sl QR 3 w.cell? a L :=
  slice_of (R := QR) Tryz.underlying27 (by kernel_rfl) (by decide) QR.elem.size (fun _ _ _ hl h => rat_of hl h) h
theorem ratss_of {fuel : Nat} {v : Value} {x : DataW H × List MemPlace} (h : DataW.trod enc Tryz.prog w base spare held fuel 25 [v] = some x) :
    ∃ (a : Option Addr) (L : List (List RawQ)) (cap : Nat), v = .slice a L.length cap /\ L.length <= cap /\ cap <= 9223372036854775807 /\ Sl RR 1 w.cell? a L :=
  slice_of (R := RR) Tryz.underlying25 (by kernel_rfl) (by decide) RR.elem.size (fun _ cs _ hl h => by
    match cs, hl with
    | [a], _ =>
      obtain ⟨ao, L, cap, rfl, h1, h2, h3⟩ := rats_of h
      exact ⟨.slice ao L.length cap, L, rfl, ao, cap, rfl, h1, h3⟩) h
end
end Go.Proofs.YthipmbmjodhiiaaGreat
namespace Go.Rep
open Go.RowKit Go.Lim
theorem Sl.raw {X : Nat -> Bool} {w : World} {ao : Option Addr} {l : List RawQ} (s : Sl QR 3 (mk X w) ao l) (i : Nat) (hi : i < l.length) :
    ∃ g o a c d e, adr ao (i * 3) = ⟨g, o, none⟩ /\ X g = false /\ Hid (∀ Y W', ExtX Y w W' -> Y g = false -> W'.cell? ⟨g, o, none⟩ = some (.bool l[i].1) /\ W'.cell? ⟨g, o + 1, none⟩ = some (.slice a l[i].2.1.length c) /\ W'.cell? ⟨g, o + 2, none⟩ = some (.slice d l[i].2.2.length e)) /\ QR (mk X w) (.agg #[.bool l[i].1, .slice a l[i].2.1.length c, .slice d l[i].2.2.length e]) l[i] := by
  obtain ⟨u, h1, h2, h3⟩ := s.2 i hi
  obtain ⟨a, c, d, e, rfl⟩ := h3.shape
  have c0 := h2 0 (by simp [Value.cells])
  have c1 := h2 1 (by simp [Value.cells])
  have c2 := h2 2 (by simp [Value.cells])
  refine ⟨(adr ao (i * 3)).block, (adr ao (i * 3)).off, a, c, d, e, rfl, ?_, hid fun Y W' hE hY => ⟨?_, ?_, ?_⟩, h3⟩
  · cases hx : X (adr ao (i * 3)).block
    · rfl
    · have c9 : mk X w (adr ao (i * 3)) = some (.bool l[i].1) := c0
      simp [mk, hx] at c9
  · exact hE.cellY (mk_cell c0) hY
  · exact hE.cellY (mk_cell c1) hY
  · exact hE.cellY (mk_cell c2) hY
theorem Sl.rowR {α : Type} {R : Mem -> Value -> α -> Prop} {sz : Nat} {X : Nat -> Bool} {w : World} {ao : Option Addr} {m : List (List α)} (s : Sl (SlV R sz) 1 (mk X w) ao m) (i : Nat) (hi : i < m.length) :
    ∃ a c, X (adr ao i).block = false /\ Hid (∀ Y W', ExtX Y w W' -> Y (adr ao i).block = false -> W'.cell? (adr ao i) = some (.slice a m[i].length c)) /\ m[i].length <= c /\ Sl R sz (mk X w) a m[i] := by
  obtain ⟨u, h1, a, c, rfl, h2, h3⟩ := s.cell SlV.one i hi
  refine ⟨a, c, ?_, hid fun Y W' hE hY => hE.cellY (mk_cell h1) hY, h2, h3⟩
  cases hx : X (adr ao i).block
  · rfl
  · simp [mk, hx] at h1
theorem Few.dec {k n m : Nat} {x : RawQ} (h1 : x.2.1.length = n) (h2 : x.2.2.length = m) : (decide (n <= k) && decide (m <= k)) = true ↔ Few k x := by
  rw [Bool.and_eq_true, decide_eq_true_eq, decide_eq_true_eq]; subst h1 h2; exact Iff.rfl
end Go.Rep
namespace Go.Proofs.YthipmbmjodhiiaaGreat
open Go.RowKit Go.Rep Go.Lim
set_option maxRecDepth 100000 in
theorem light1_any (w : World) (s : Bool) (ao bo : Option Addr) (n c k e : Nat) : Calls Tryz.prog 68 #[.agg #[.bool s, .slice ao n c, .slice bo k e]] w (BOut w (decide (n <= 8) && decide (k <= 8))) := by
  obtain ⟨W, hW, hE, b0, hz⟩ := boxes1 w #[.bool s, .slice ao n c, .slice bo k e] 34
  obtain ⟨b, hb⟩ : ∃ b, w.heap.size = b := ⟨_, rfl⟩
  rw [hb] at b0 hz
  have k00 := b0.cell 0 rfl
  have k01 := b0.cell 1 rfl
  have k02 := b0.cell 2 rfl
  clear hz
  by_cases h1 : n <= 8
  · have h1' : (n : Int) <= 8 := by omega
    by_cases h2 : k <= 8
    · have h2' : (k : Int) <= 8 := by omega
      have hr := hid (show true = (decide (n <= 8) && decide (k <= 8)) by simp [h1, h2])
      clear h1 h2
      go_enter Tryz.func68, Tryz.ntmps68
      go_wp2_with fail
      go_ret
      exact ⟨hE, ret_bool hr.out⟩
    · have h2' : ¬ (k : Int) <= 8 := by omega
      have hr := hid (show false = (decide (n <= 8) && decide (k <= 8)) by simp [h2])
      clear h1 h2
      go_enter Tryz.func68, Tryz.ntmps68
      go_wp2_with fail
      go_ret
      exact ⟨hE, ret_bool hr.out⟩
  · have h1' : ¬ (n : Int) <= 8 := by omega
    have hr := hid (show false = (decide (n <= 8) && decide (k <= 8)) by simp [h1])
    clear h1
    go_enter Tryz.func68, Tryz.ntmps68
    go_wp2_with fail
    go_ret
    exact ⟨hE, ret_bool hr.out⟩
def lightL (l : List RawQ) (most : Nat) : Bool := decide (l.length <= most /\ ∀ x ∈ l, Few 8 x)
def lightM (m : List (List RawQ)) (r c : Nat) : Bool := decide (m.length <= r /\ ∀ x ∈ m, lightL x c = true)
set_option maxRecDepth 100000 in
theorem lightlist_any (X : Nat -> Bool) (w : World) (u : Value) (l : List RawQ) (most : Nat) (hu : RR (mk X w) u l) (hm : most <= 1000) : Calls Tryz.prog 34 #[u, .int .i64 (most : Int)] w (BOut w (lightL l most)) := by
  obtain ⟨ao, ca, rfl, hca, hsa⟩ := hu
  have hh := hsa.hd
  by_cases hl : l.length <= most
  · have hng : ¬ (most : Int) < (l.length : Int) := by omega
    have hyes : Hid ((∀ p (hp : p < l.length), Few 8 l[p]) -> lightL l most = true) := hid fun h => decide_eq_true ⟨hl, fun x hx => by obtain ⟨p, hp, rfl⟩ := List.getElem_of_mem hx; exact h p hp⟩
    have hno : Hid (∀ p (hp : p < l.length), ¬ Few 8 l[p] -> lightL l most = false) := hid fun p hp h => decide_eq_false fun h2 => h (h2.2 _ (List.getElem_mem _))
    obtain ⟨n, hn⟩ : ∃ n, l.length = n := ⟨_, rfl⟩
    have hn' := hid hn
    have hn6 : n <= 1000 := by omega
    rw [hn] at hh hng |-
    clear hl hn hca
    go_enter Tryz.func34, Tryz.ntmps34
    go_wp2_with fail
    go_loopw [5] (fun c wr => ∃ i : Nat, c = .int .i64 i /\ i <= n /\ Hid (∀ p (hp : p < l.length), p < i -> Few 8 l[p]) /\ Ext w wr) (fun c _ => n - (intOf c).toNat)
    case atStart => exact ⟨0, rfl, Nat.zero_le _, hid (fun p hp h => by omega), ExtX.refl _⟩
    case round =>
      obtain ⟨i, rfl, hi, hok, hE⟩ := hrel
      by_cases hlt : i < n
      · have hil : i < l.length := by rw [hn'.out]; exact hlt
        have hsr := hsa.mono QR.mono (mk_ext hE)
        obtain ⟨g, o, a, c, d, e, _, _, _, hq⟩ := hsr.raw i hil
        by_cases hf : Few 8 l[i]
        · have hL : Hid ((decide (l[i].2.1.length <= 8) && decide (l[i].2.2.length <= 8)) = true) := hid ((Few.dec rfl rfl).2 hf)
          have hok2 : Hid (∀ p (hp : p < l.length), p < i + 1 -> Few 8 l[p]) := hid fun p hp hpi => by
            by_cases h : p = i
            · subst h; exact hf
            · exact hok.out p hp (by omega)
          clear hf
          go_wp2_with (first | (with_reducible refine up_ixn slRat (by omega) (by assumption) ?_) | ((with_reducible show wpList _ _ _ (⟨_, .load 34 _, _, _, _, _⟩ :: _) _ _); refine st_loadElem stRat i hsr hil rfl (by simp) QR.agg ?_; intro u5 hu5; obtain ⟨a5, c5, d5, e5, rfl⟩ := hu5.shape))
          refine (light1_any wr _ _ _ _ _ _ _).mono ?_
          rintro ee w5 ⟨hE5, rfl⟩
          rw [hL.out]
          go_wp2_with fail
          go_roundw
          case rel => exact ⟨i + 1, by go_num, by omega, hok2, hE.trans hE5⟩
          case measure => simp [intOf]; omega
        · have hL : Hid ((decide (l[i].2.1.length <= 8) && decide (l[i].2.2.length <= 8)) = false) := hid (by
            cases hb : (decide (l[i].2.1.length <= 8) && decide (l[i].2.2.length <= 8))
            · rfl
            · exact absurd ((Few.dec rfl rfl).1 hb) hf)
          have hr := hid (hno.out i hil hf).symm
          clear hf
          go_wp2_with (first | (with_reducible refine up_ixn slRat (by omega) (by assumption) ?_) | ((with_reducible show wpList _ _ _ (⟨_, .load 34 _, _, _, _, _⟩ :: _) _ _); refine st_loadElem stRat i hsr hil rfl (by simp) QR.agg ?_; intro u5 hu5; obtain ⟨a5, c5, d5, e5, rfl⟩ := hu5.shape))
          refine (light1_any wr _ _ _ _ _ _ _).mono ?_
          rintro ee w5 ⟨hE5, rfl⟩
          rw [hL.out]
          go_wp2_with fail
          go_ret
          exact ⟨hE.trans hE5, ret_bool hr.out⟩
      · have hr := hid (hyes.out fun p hp => hok.out p hp (by rw [hn'.out] at hp; omega)).symm
        have hin : i = n := by omega
        subst hin
        go_wp2_with fail
        go_ret
        exact ⟨hE, ret_bool hr.out⟩
  · have hg : (most : Int) < (l.length : Int) := by omega
    have hr : Hid (false = lightL l most) := hid (decide_eq_false fun h => hl h.1).symm
    clear hl
    go_enter Tryz.func34, Tryz.ntmps34
    go_wp2_with fail
    go_ret
    exact ⟨ExtX.refl _, ret_bool hr.out⟩
set_option maxRecDepth 100000 in
theorem lightmat_any (X : Nat -> Bool) (w : World) (u : Value) (m : List (List RawQ)) (r c : Nat) (hu : MR (mk X w) u m) (hr : r <= 1000) (hc : c <= 1000) : Calls Tryz.prog 33 #[u, .int .i64 (r : Int), .int .i64 (c : Int)] w (BOut w (lightM m r c)) := by
  obtain ⟨ao, ca, rfl, hca, hsa⟩ := hu
  have hh := hsa.hd
  by_cases hl : m.length <= r
  · have hng : ¬ (r : Int) < (m.length : Int) := by omega
    have hyes : Hid ((∀ p (hp : p < m.length), lightL m[p] c = true) -> lightM m r c = true) := hid fun h => decide_eq_true ⟨hl, fun x hx => by obtain ⟨p, hp, rfl⟩ := List.getElem_of_mem hx; exact h p hp⟩
    have hno : Hid (∀ p (hp : p < m.length), lightL m[p] c = false -> lightM m r c = false) := hid fun p hp h => decide_eq_false fun h2 => by have := h2.2 _ (List.getElem_mem hp); rw [h] at this; simp at this
    obtain ⟨n, hn⟩ : ∃ n, m.length = n := ⟨_, rfl⟩
    have hn' := hid hn
    have hn6 : n <= 1000 := by omega
    rw [hn] at hh hng |-
    clear hl hn hca
    go_enter Tryz.func33, Tryz.ntmps33
    go_wp2_with fail
    go_loopw [7] (fun cc wr => ∃ i : Nat, cc = .int .i64 i /\ i <= n /\ Hid (∀ p (hp : p < m.length), p < i -> lightL m[p] c = true) /\ Ext w wr) (fun cc _ => n - (intOf cc).toNat)
    case atStart => exact ⟨0, rfl, Nat.zero_le _, hid (fun p hp h => by omega), ExtX.refl _⟩
    case round =>
      obtain ⟨i, rfl, hi, hok, hE⟩ := hrel
      by_cases hlt : i < n
      · have hil : i < m.length := by rw [hn'.out]; exact hlt
        have hsr := hsa.mono RR.mono (mk_ext hE)
        obtain ⟨a1, c1, hX1, hc1, hcl1, hq1⟩ := hsr.rowR i hil
        have k00 := hc1.out noY wr (ExtX.refl _) rfl
        have hll := lightlist_any X wr (.slice a1 m[i].length c1) m[i] c ⟨a1, c1, rfl, hcl1, hq1⟩ hc
        clear hc1 hq1
        cases hf : lightL m[i] c
        · rw [hf] at hll
          have hr := hid (hno.out i hil hf).symm
          clear hf
          go_wp2_with (with_reducible refine up_ix1 slRats (by omega) (by assumption) ?_)
          refine hll.mono ?_
          rintro ee w5 ⟨hE5, rfl⟩
          clear k00
          go_wp2_with fail
          go_ret
          exact ⟨hE.trans hE5, ret_bool hr.out⟩
        · rw [hf] at hll
          have hok2 : Hid (∀ p (hp : p < m.length), p < i + 1 -> lightL m[p] c = true) := hid fun p hp hpi => by
            by_cases h : p = i
            · subst h; exact hf
            · exact hok.out p hp (by omega)
          clear hf
          go_wp2_with (with_reducible refine up_ix1 slRats (by omega) (by assumption) ?_)
          refine hll.mono ?_
          rintro ee w5 ⟨hE5, rfl⟩
          clear k00
          go_wp2_with fail
          go_roundw
          case rel => exact ⟨i + 1, by go_num, by omega, hok2, hE.trans hE5⟩
          case measure => simp [intOf]; omega
      · have hr := hid (hyes.out fun p hp => hok.out p hp (by rw [hn'.out] at hp; omega)).symm
        have hin : i = n := by omega
        subst hin
        go_wp2_with fail
        go_ret
        exact ⟨hE, ret_bool hr.out⟩
  · have hg : (r : Int) < (m.length : Int) := by omega
    have hr : Hid (false = lightM m r c) := hid (decide_eq_false fun h => hl h.1).symm
    clear hl
    go_enter Tryz.func33, Tryz.ntmps33
    go_wp2_with fail
    go_ret
    exact ⟨ExtX.refl _, ret_bool hr.out⟩
end Go.Proofs.YthipmbmjodhiiaaGreat
