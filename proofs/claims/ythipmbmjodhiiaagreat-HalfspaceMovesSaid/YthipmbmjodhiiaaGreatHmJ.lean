/- halfspace: the search for the depth, whole. Conditions: at most 64 vectors of at most 3 numbers of few digits. halfspace: Depth. Conditions: numbers of few digits. The tape of choices: rational numbers, rows of them. What is drawn is some number of few digits. Conditions: none beyond small ranges. The tape of choices: rows of rational numbers. Conditions: none beyond small ranges. The tape of choices: numbers that may not be valid, rows of them. What is drawn is some number of few digits. Conditions: none beyond small ranges. The tape of choices: points. What is drawn is some list of rows of few digits. Conditions: none beyond small ranges. The tape of choices: lists of rows that may be no points. What is drawn is some list of rows of few digits. Conditions: none beyond small ranges. The tape of choices: a point for points. What is drawn is some row of few digits. Conditions: none beyond small ranges. law 25: awake. Conditions: none. Facts of the whole program that each row asks for. Conditions: none. Arguments, opened to lists: []int. Conditions: none. -/
import Derived.Test.YthipmbmjodhiiaaGreatHmI
import Derived.BigRegion
import Derived.Deep.RegionHeld3
import Derived.Test.YthipmbmjodhiiaaGreatRows
import Derived.WalkKit
import Derived.JoinedOf
import Derived.ProofKit
import Derived.OpenShut
import Derived.ShutString
import Derived.ChangeOld
import Derived.Below
import Derived.Deep.Slices
import Derived.Deep.Fields
import Derived.ChangeSame
namespace Go.Rep
open Go.RowKit
/-- Two results, each in a cell of its own. -/
theorem results_cells2 {P : Program} {w : World} {fn : Func} {tmps : Array Value} {c1 c2 : Tmp} {t1 t2 : TypeId} {A1 A2 : Addr} {v1 v2 : Value} (h : fn.results = #[.cell c1 t1, .cell c2 t2]) (hp1 : tmps.getD c1 undef = .pointer (some A1)) (hp2 : tmps.getD c2 undef = .pointer (some A2))
    (g1 : ∀ w, (isAgg t1).run P w = .ok false w) (g2 : ∀ w, (isAgg t2).run P w = .ok false w) (h1 : w.cell? A1 = some v1) (h2 : w.cell? A2 = some v2) : (results fn tmps).run P w = .ok (.tuple #[v1, v2]) w := by
  rw [Array.getD_eq_getD_getElem?] at hp1 hp2
  simp [results, h, hp1, hp2, asAddr, loadVar, g1, g2, h1, h2]
theorem Sl.oldZ {α : Type} {R : Mem → Value → α → Prop} (hR : Mono R) {sz : Nat} {X Y : Nat → Bool} {w w' : World} {oo ao : Option Addr} {l : List α} (s : Sl R sz (mk X w) ao l) (hE : ExtX Y w w') (hY : ∀ k, Y k = true → X k = true) (hb : ∀ j, j < w.heap.size → ob oo j = false) : Sl R sz (mk (un X oo) w') ao l :=
  s.mono hR (mk_over hE (fun k _ hk => hY k hk) fun j hk hz => by simpa [un, hb j hk] using hz)
end Go.Rep
namespace Go.Lin
open Go.Lim Go.Rep
theorem sgn_pos {sg : Int} (h : sg = 1 ∨ sg = -1) (v : List Rat) : 0 < dot 1 (vec (sgL sg [1])) (vec v) ↔ (v.getD 0 0).num.sign = sg := by
  rw [dot_one, sgL_vec]
  have e : vec [1] 0 = 1 := rfl
  have e2 : vec v 0 = v.getD 0 0 := rfl
  rw [e, e2]
  generalize v.getD 0 0 = x
  rcases h with rfl | rfl
  · have h1 : ((1 : Int) : Rat) = 1 := rfl
    rw [h1]
    rcases sign_cases x with ⟨a, b⟩ | ⟨a, b⟩ | ⟨a, b⟩
    · rw [b]; exact ⟨fun _ => rfl, fun _ => by grind⟩
    · rw [b]; exact ⟨fun h => by grind, fun h => by omega⟩
    · rw [b]; exact ⟨fun h => by grind, fun h => by omega⟩
  · have h1 : ((-1 : Int) : Rat) = -1 := rfl
    rw [h1]
    rcases sign_cases x with ⟨a, b⟩ | ⟨a, b⟩ | ⟨a, b⟩
    · rw [b]; exact ⟨fun h => by grind, fun h => by omega⟩
    · rw [b]; exact ⟨fun h => by grind, fun h => by omega⟩
    · rw [b]; exact ⟨fun _ => rfl, fun _ => by grind⟩
end Go.Lin
namespace Go.Proofs.YthipmbmjodhiiaaGreat
open Go.RowKit Go.Rep Go.Lim Go.Lin
theorem aggInt : ∀ w, (isAgg 3).run Tryz.prog w = .ok false w := fun w => by simp [isAgg, Sem.run_bind, run_underlying Tryz.underlying3, Result.andThen]
theorem aggRatss : ∀ w, (isAgg 25).run Tryz.prog w = .ok false w := fun w => by simp [isAgg, Sem.run_bind, run_underlying Tryz.underlying25, Result.andThen]
theorem Bx.store {w : World} {b : Nat} {v0 : Value} {T : TypeId} (h : Bx w b #[v0] T) (v : Value) : Bx (w.setCell ⟨b, 0, none⟩ v) b #[v] T ∧ ExtX (ob (some ⟨b, 0, none⟩)) w (w.setCell ⟨b, 0, none⟩ v) := by
  obtain ⟨h1, h2⟩ := setCell_block h v (i := 0) (by simp)
  exact ⟨by simpa using h1, h2⟩

set_option maxRecDepth 100000 in
set_option maxHeartbeats 6400000 in
theorem best_any (n : Nat) : BestC n := by
  induction n using Nat.strongRecOn with
  | _ n ih =>
  intro X w u z c B hX hu hs hn hc1 hc3 hzB hB1 hB
  have hzl : z.length = n := hs.1
  obtain ⟨W, hW, hEW, d0, d1, d2, d3, hz4⟩ := boxes4 w #[.int .i64 (c : Int)] #[.int .i64 0] #[.slice none 0 0] #[.slice none 0 0] 3 3 25 25
  obtain ⟨bd, hbd⟩ : ∃ b, w.heap.size = b := ⟨_, rfl⟩
  obtain ⟨bc, hbc⟩ : ∃ b, bd + 1 = b := ⟨_, rfl⟩
  obtain ⟨bs, hbs⟩ : ∃ b, bc + 1 = b := ⟨_, rfl⟩
  obtain ⟨bo, hbo⟩ : ∃ b, bs + 1 = b := ⟨_, rfl⟩
  rw [hbd] at d0 d1 d2 d3 hz4
  rw [hbc] at d1 d2 d3
  rw [hbs] at d2 d3
  rw [hbo] at d3
  obtain ⟨ua, uca, rfl, huca, hua⟩ := hu
  have hhu := hua.hd
  rw [hzl] at huca hhu ⊢
  have hzl' := hid hzl
  have hs' := hid hs
  have hzB' := hid hzB
  have ih' := hid ih
  have hoc := hid (fun i (hi : i < z.length) => others_succ (z := z) hi)
  obtain ⟨Xo, hXo⟩ : ∃ Xo, hidB X bd 4 = Xo := ⟨_, rfl⟩
  have hXW : HX Xo W := by
    have := hX.boxes (w' := W) (nb := 4) (by omega)
    rw [hbd, hXo] at this; exact this
  have hin4 : ∀ k, bd ≤ k → k < bd + 4 → Xo k = true := fun k h1 h2 => by rw [← hXo]; exact hidB_in h1 h2
  have hXbo : Xo bo = true := hin4 bo (by omega) (by omega)
  have huW : Sl RV 1 (mk Xo W) ua z := by
    have := hua.mono RV.mono (le_boxes (nb := 4) hEW)
    rw [hbd, hXo] at this; exact this
  have hsubo : ∀ k, ob (some ⟨bo, 0, none⟩) k = true → Xo k = true := fun k hk => by
    have : bo = k := by simpa [ob] using hk
    rw [← this]; exact hXbo
  have hzc : z.length ≤ 1000 := by omega
  have hzr : Hid (∀ r ∈ z, r.length ≤ 1000) := hid fun r hr => by rw [hs.2 r hr]; omega
  clear hs hzB ih hua hzl
  go_enter Tryz.func58, Tryz.ntmps58
  go_wp2_with fail
  go_loopw [22] (fun cx wr => ∃ (i : Nat) (oo : Option Addr) (oc : Nat) (O : List (List Rat)), cx = .int .i64 i ∧ i ≤ n ∧ O.length ≤ i ∧ Hid (O = others (z.take i)) ∧ Bx wr bo #[.slice oo O.length oc] 25 ∧ OL RV 1 Xo W.heap.size 27 wr oo oc O ∧ ExtX (ob (some ⟨bo, 0, none⟩)) W wr) (fun cx _ => n - (intOf cx).toNat)
  case atStart => exact ⟨0, none, 0, [], rfl, Nat.zero_le _, Nat.zero_le _, hid rfl, d3, OL.nil _ _ _ _ _ _, ExtX.refl _⟩
  case round =>
    obtain ⟨i, oo, oc, O, rfl, hi, hOl, hOe, hb, hO, hE⟩ := hrel
    have hXr : HX Xo wr := hXW.ext hE
    by_cases hlt : i < n
    · have hiz : i < z.length := by rw [hzl'.out]; exact hlt
      have hsr : Sl RV 1 (mk (un Xo oo) wr) ua z := huW.oldZ RV.mono hE hsubo (fun j hj => hO.ob_lt hj)
      obtain ⟨a1, c1, hX1, hc1', hcl1, hq1⟩ := hsr.row i hiz
      have k00 := hc1'.out noY wr (ExtX.refl _) rfl
      have hos := hid (hoc.out i hiz)
      have hrl := hzr.out z[i] (List.getElem_mem _)
      obtain ⟨v, hv⟩ : ∃ v, z[i] = v := ⟨_, rfl⟩
      rw [hv] at k00 hos hrl hcl1 hq1
      obtain ⟨vl, hvl⟩ : ∃ vl, v.length = vl := ⟨_, rfl⟩
      have hvl' := hid hvl
      have hvU : RV (mk (un Xo oo) wr) (.slice a1 vl c1) v := ⟨a1, c1, by rw [hvl], hcl1, hq1⟩
      have hzv := hzero_any (un Xo oo) wr (.slice a1 vl c1) v (hO.unX hXr) hvU hrl
      rw [hvl] at k00
      obtain ⟨zb, hzb⟩ : ∃ zb, zeroB v = zb := ⟨_, rfl⟩
      rw [hzb] at hzv hos
      have kb := hb.cell 0 rfl
      obtain ⟨ol, hol⟩ : ∃ ol, O.length = ol := ⟨_, rfl⟩
      have hol' := hid hol
      rw [hol] at hb kb hOl
      clear hc1' hv hzb hq1 hcl1 hvl hol hrl
      cases zb
      · have hF2 : Hid (O ++ [v] = others (z.take (i + 1))) := hid (by rw [hos.out, ← hOe.out]; rfl)
        clear hos
        go_wp2_with (with_reducible refine up_ix1 slRats (by omega) (by assumption) ?_)
        refine hzv.mono ?_
        rintro e w5 ⟨hE5, rfl⟩
        have hO5 := hO.ext0 RV.elem hE5
        have hb5 := hb.ext0 hE5
        have kb5 := hb5.cell 0 rfl
        have hv5 := mkx RV.mono hvU hE5
        have hX5 : HX Xo w5 := hXr.ext hE5
        have hbs5 : W.heap.size ≤ w5.heap.size := Nat.le_trans hE.size hE5.size
        clear hzv k00 kb
        go_wp2_with (first | (at_builtin; refine st_append1n (l := O) slRats rfl RV.elem hbs5 hX5 ol hol'.out rfl rfl hO5 (.slice a1 vl c1) v rfl hv5 (by omega) (by omega) ?_; intro oo2 oc2 w7 hO7 hE7 hor; have hb7 := hb5.ext hE7 (hO5.not_ob hXbo); have kb7 := hb7.cell 0 rfl; have fb7 := hb7.frozen 0; obtain ⟨hb8, hE8⟩ := Bx.store hb7 (.slice oo2 (ol + 1) oc2); have hO8 := hO7.ext RV.elem hE8 (fun k _ hk => hsubo k hk) (fun _ _ h => h)) | ((with_reducible show wpList _ _ _ (⟨_, .store 25 _ _, _, _, _, _⟩ :: _) _ _); refine st_cell tyRatss rfl rfl rfl rfl kb7 fb7 ?_))
        have hE9 := ((hE.then_ hE5 (fun _ _ _ => rfl)).own hO5 (Nat.le_refl _) hE7).trans hE8
        have hl9 : (O ++ [v]).length = ol + 1 := by rw [List.length_append, hol'.out]; rfl
        go_roundw
        case rel => exact ⟨i + 1, oo2, oc2, O ++ [v], by go_num, by omega, by omega, hF2, by rw [hl9]; exact hb8, hO8, hE9⟩
        case measure => simp [intOf]; omega
      · have hF2 : Hid (O = others (z.take (i + 1))) := hid (by rw [hos.out, ← hOe.out]; simp)
        clear hos
        go_wp2_with (with_reducible refine up_ix1 slRats (by omega) (by assumption) ?_)
        refine hzv.mono ?_
        rintro e w5 ⟨hE5, rfl⟩
        have hO5 := hO.ext0 RV.elem hE5
        have hb5 := hb.ext0 hE5
        have hE9 := hE.then_ hE5 (fun _ _ _ => rfl)
        rw [← hol'.out] at hb5
        clear hzv k00 kb
        go_wp2_with fail
        go_roundw
        case rel => exact ⟨i + 1, oo, oc, O, by go_num, by omega, by rw [hol'.out]; omega, hF2, hb5, hO5, hE9⟩
        case measure => simp [intOf]; omega
    · have hin : n = i := by omega
      subst hin
      have hOf : O = others z := by rw [hOe.out, List.take_of_length_le (by rw [hzl'.out]; exact Nat.le_refl _)]
      have hOs : Shp O.length c O := by rw [hOf]; exact others_shp hs'.out
      have hOz : ∀ v ∈ vecs O, nz c v := by rw [hOf]; exact others_nz hs'.out
      have hOB : BM B O := by rw [hOf]; exact BM.sub hzB'.out (others_sub z)
      have hnone := hid (fun (h : O = []) => (by
        rw [hOf] at h
        have := back_none hs'.out h (unitL_nz (d := c) (by omega))
        rwa [hzl'.out] at this : IsDep c (vecs z) n ∧ Wit c (vecs z) n (vecs [unitL c])))
      have hback := hid (fun cnt us (h1 : IsDep c (vecs O) cnt) (h2 : Wit c (vecs O) cnt (vecs us)) => (by
        rw [hOf] at h1 h2
        have := back hs'.out h1 h2
        rwa [hzl'.out, ← hOf] at this : IsDep c (vecs z) (cnt + (n - O.length)) ∧ Wit c (vecs z) (cnt + (n - O.length)) (vecs us)))
      have hXr := hXW.ext hE
      have e0 := d0.ext hE (ob_other (by omega))
      have e1 := d1.ext hE (ob_other (by omega))
      have e2 := d2.ext hE (ob_other (by omega))
      have hEr : Ext w wr := ExtX.box hEW hE (by omega)
      have hOc := hO.lenCap
      have hOS := hO.sl RV.elem
      obtain ⟨ol, hol⟩ : ∃ ol, O.length = ol := ⟨_, rfl⟩
      have hol' := hid hol
      rw [hol] at hOl hb hOs hback hOc
      have kb := hb.cell 0 rfl
      have kd := e0.cell 0 rfl
      have hmf : ∀ (fn : Fn) (first cap : Array Value) (w : World), (Instr.makeFunc fn first cap).run Tryz.prog w = .ok (.func fn first cap) w := fun _ _ _ _ => rfl
      clear hoc hzr huW hE hO d0 d1 d2 d3 hOe hOf hi hlt hol hW
      obtain ⟨wq, hwq⟩ : ∃ wq, wq = wr := ⟨_, rfl⟩
      subst hwq
      by_cases h0 : ol = 0
      · subst h0
        obtain ⟨g1, g2⟩ := hnone.out (List.eq_nil_of_length_eq_zero hol'.out)
        have hg1 := hid g1
        have hg2 := hid g2
        clear g1 g2
        go_wp2_with fail
        refine (hunit_any Xo wq c hXr (by omega) (by omega)).mono ?_
        rintro e w5 ⟨hE5, u5, rfl, ao5, ca5, rfl, hca5, hs5⟩
        have hur : RV (mk Xo w5) (.slice ao5 c ca5) (unitL c) := ⟨ao5, ca5, by rw [unitL_len], by rw [unitL_len] at hca5 ⊢; exact hca5, hs5.qv fun q hq => Nat.le_trans (unitL_br c q hq) (by decide)⟩
        have hX5 : HX Xo w5 := hXr.ext hE5
        have hL := lit_row1 Xo w5 ao5 c ca5 (unitL c) 27 hX5 hur
        have hEl : Ext w5 (w5.alloc (.cells #[.slice ao5 c ca5] 27)) := (ExtX.refl _).alloc _
        obtain ⟨g, hg⟩ : ∃ g : Option Addr, some ⟨w5.heap.size, 0, none⟩ = g := ⟨_, rfl⟩
        obtain ⟨w6, hw6⟩ : ∃ w6, w5.alloc (.cells #[.slice ao5 c ca5] 27) = w6 := ⟨_, rfl⟩
        rw [hg, hw6] at hL
        rw [hw6] at hEl
        have f1 := (e1.ext0 hE5).ext0 hEl
        have f2 := (e2.ext0 hE5).ext0 hEl
        have q1 := f1.cell 0 rfl
        have q2 := f1.frozen 0
        obtain ⟨f3, hE7⟩ := Bx.store f1 (.int .i64 (n : Int))
        have f4 := f2.ext hE7 (ob_other (by omega))
        have q3 := f4.cell 0 rfl
        have q4 := f4.frozen 0
        obtain ⟨f5, hE8⟩ := Bx.store f4 (.slice g 1 1)
        have f6 := f3.ext hE8 (ob_other (by omega))
        have hEf : Ext w _ := ExtX.box (ExtX.box ((hEr.trans hE5).trans hEl) hE7 (by omega)) hE8 (by omega)
        have hlen1 : (unitL c).length = c := unitL_len c
        have hm6 : MV (mk Xo w6) (.slice g 1 1) [unitL c] := ⟨g, 1, rfl, Nat.le_refl _, hL.sl RV.elem⟩
        have hm8 := MV.mono _ _ _ _ (mk_mono (X := Xo) hE8 (fun k hk => by
          have : bs = k := by simpa [ob] using hk
          exact hin4 k (by omega) (by omega))) (MV.mono _ _ _ _ (mk_mono (X := Xo) hE7 (fun k hk => by
          have : bc = k := by simpa [ob] using hk
          exact hin4 k (by omega) (by omega))) hm6)
        rw [← hXo] at hm8
        have hm9 := MV.mono _ _ _ _ le_unbox hm8
        go_wp2_with (first | ((with_reducible show wpList _ _ _ (⟨_, .store 3 _ _, _, _, _, _⟩ :: _) _ _); refine st_cell tyInt rfl rfl rfl rfl q1 q2 ?_) | ((with_reducible show wpList _ _ _ (⟨_, .store 25 _ _, _, _, _, _⟩ :: _) _ _); refine st_cell tyRatss rfl rfl rfl rfl q3 q4 ?_))
        exact bodyPost_ret (results_cells2 rfl rfl rfl aggInt aggRatss (f6.cell 0 rfl) (f5.cell 0 rfl)) rfl ⟨hEf, n, .slice g 1 1, [unitL c], rfl, hm9, fun r hr => by
          rw [List.mem_singleton.1 hr]; exact fun q hq => Nat.le_trans (unitL_br c q hq) (by decide), fun r hr => by rw [List.mem_singleton.1 hr]; exact hlen1, hg1.out, hg2.out⟩
      have h0' : ((ol : Int) == 0) = false := beqF (by omega)
      have hOne : O ≠ [] := fun h => h0 (by rw [← hol'.out, h]; rfl)
      have hpos := rank_pos hOs hOz hOne
      obtain ⟨r, hr⟩ : ∃ r, (redP O c).2.length = r + 1 := ⟨_, (Nat.succ_pred_eq_of_pos hpos).symm⟩
      have hrc := piv_le_cols hOs
      have hrn := piv_le_rows hOs
      have hT : Tame O c := by
        rcases search_hb hOs (bm_hb hOB hB1) hc3 with h | h
        · exact h
        · omega
      obtain ⟨hOf, hOcol⟩ := formedB_of hOs (by omega) hc1 (by omega) (by omega)
      have hMO : MV (mk Xo wq) (.slice oo ol oc) O := ⟨oo, oc, by rw [hol'.out], by rw [hol'.out]; exact hOc, hOS⟩
      have hrk := rank_ok Xo wq (.slice oo ol oc) O hXr hMO hOf (by rw [hOcol]; exact hT.e)
      rw [hOcol, rankV_red, hr] at hrk
      have hnu := hid (fun w' (h : Ext wq w') => null_ok Xo w' (.slice oo ol oc) O ol c (hXr.ext h) (mkx MV.mono hMO h) hOf hol'.out hOcol hT)
      have hwrp : IntKind.i64.wrap ((ol : Int) + 1) = ((ol + 1 : Nat) : Int) := by rw [IntWalk.i64_in _ (by omega)]; omega
      clear hnone
      go_wp2_with fail
      refine hrk.mono ?_
      rintro e w5 ⟨hE5, rfl⟩
      have hnu5 := hnu.out w5 hE5
      have kb5 := (hb.ext0 hE5).cell 0 rfl
      clear hrk
      go_wp2_with fail
      refine hnu5.mono ?_
      rintro e w6 ⟨hE6, u6, rfl, hu6⟩
      have hN := hu6.mv (m := nullM O c) (fun r hr q hq => Nat.le_trans (hb_bm (nullM_hb (bm_hb hOB hB1) hOs (k := 3) (by omega)) r hr q hq) (by
        have e : 35 ^ 3 = 42875 := by decide
        rw [e]; omega))
      obtain ⟨no, nc, rfl, hnc, hns⟩ := hN
      have bx := Bx.new w6 #[.slice none 0 0] 25
      have bx0 := bx.cell 0 rfl
      have bx1 := bx.frozen 0
      obtain ⟨bx2, hE7⟩ := Bx.store bx (.slice no (nullM O c).length nc)
      have hE67 : Ext w6 _ := ExtX.box ((ExtX.refl w6).alloc _) hE7 (Nat.le_refl _)
      obtain ⟨nl, hnl⟩ : ∃ nl, (nullM O c).length = nl := ⟨_, rfl⟩
      have hnl' := hid hnl
      have hnlL : (nullL (ent (redP O c).1) (redP O c).2 c).length = nl := hnl
      rw [hnl] at hnc bx2 hE7 hE67
      obtain ⟨bu, hbu⟩ : ∃ bu, w6.heap.size = bu := ⟨_, rfl⟩
      rw [hbu] at bx0 bx1 bx2 hE7 hE67
      obtain ⟨w7, hw7⟩ : ∃ w7, (w6.alloc (.cells #[.slice none 0 0] 25)).setCell ⟨bu, 0, none⟩ (.slice no nl nc) = w7 := ⟨_, rfl⟩
      rw [hw7] at bx2 hE67
      have hEq7 : Ext wq w7 := hE5.trans (hE6.trans hE67)
      have kb7 := (hb.ext0 hEq7).cell 0 rfl
      have f1 := e1.ext0 hEq7
      have q1 := f1.cell 0 rfl
      have q2 := f1.frozen 0
      obtain ⟨f3, hE8⟩ := Bx.store f1 (.int .i64 ((ol : Int) + 1))
      obtain ⟨w8, hw8⟩ : ∃ w8, w7.setCell ⟨bc, 0, none⟩ (.int .i64 ((ol : Int) + 1)) = w8 := ⟨_, rfl⟩
      rw [hw8] at f3 hE8
      have f3 : Bx w8 bc #[.int .i64 ((ol + 1 : Nat) : Int)] 3 := f3
      have hsz := hEr.size
      have hsz7 := hEq7.size
      have hbu7 := bx2.lt
      have hbq : wq.heap.size ≤ bu := by rw [← hbu]; exact (hE5.trans hE6).size
      have hqb := hb.lt
      have f4 := (e0.ext0 hEq7).ext hE8 (ob_other (by omega))
      have f5 := (e2.ext0 hEq7).ext hE8 (ob_other (by omega))
      have f6 := (hb.ext0 hEq7).ext hE8 (ob_other (by omega))
      have f7 := bx2.ext hE8 (ob_other (by omega))
      have kd8 := f4.cell 0 rfl
      have kb8 := f6.cell 0 rfl
      have hsz8 := hE8.size
      have hEw8 : Ext w w8 := ExtX.box (hEr.trans hEq7) hE8 (by omega)
      by_cases hcc : c = 1
      · subst hcc
        have hr0 : r = 0 := by have := rank_one hOs hOz hOne; omega
        subst hr0
        have hX8 : HX Xo w8 := (hXr.ext hEq7).ext hE8
        have htwo : ∀ k, twoB bc bs k = true → Xo k = true := fun k hk => by
          simp only [twoB, Bool.or_eq_true, beq_iff_eq] at hk
          rcases hk with h | h
          · exact hin4 k (by omega) (by omega)
          · exact hin4 k (by omega) (by omega)
        have htb : twoB bc bs bo = false := by
          have h1 : ¬ bo = bc := by omega
          have h2 : ¬ bo = bs := by omega
          simp [twoB, h1, h2]
        have hO8 : Sl RV 1 (mk Xo w8) oo O := (hOS.mono RV.mono (mk_ext hEq7)).mono RV.mono (mk_mono hE8 fun k hk => by
          have : bc = k := by simpa [ob] using hk
          exact hin4 k (by omega) (by omega))
        have hho : Hd oo ol := by have := hO8.hd; rw [hol'.out] at this; exact this
        have hlit := (lit_sl Xo w8 [1, -1] 3 #[.int .i64 1, .int .i64 (-1)] rfl hX8 (by simp)).sl (IntIn.elem _)
        have hEa : Ext w8 (w8.alloc (.cells #[.int .i64 1, .int .i64 (-1)] 3)) := (ExtX.refl _).alloc _
        obtain ⟨wl, hwl⟩ : ∃ wl, w8.alloc (.cells #[.int .i64 1, .int .i64 (-1)] 3) = wl := ⟨_, rfl⟩
        obtain ⟨g4, hg4⟩ : ∃ g4 : Option Addr, some ⟨w8.heap.size, 0, none⟩ = g4 := ⟨_, rfl⟩
        obtain ⟨LL, hLL⟩ : ∃ LL : List Int, [1, -1] = LL := ⟨_, rfl⟩
        have hLLl : Hid (LL.length = 2) := hid (by rw [← hLL]; rfl)
        have hLLv : Hid (∀ q (hq : q < LL.length), (q = 0 ∧ LL[q] = 1) ∨ (q = 1 ∧ LL[q] = -1)) := hid fun q hq => by
          subst hLL
          match q, hq with
          | 0, _ => exact .inl ⟨rfl, rfl⟩
          | 1, _ => exact .inr ⟨rfl, rfl⟩
        rw [hwl] at hEa hlit
        rw [hg4, hLL] at hlit
        have hhL := hlit.hd
        rw [hLLl.out] at hhL
        have hXl := hX8.ext hEa
        have l1 := f3.ext0 hEa
        have l2 := f5.ext0 hEa
        have l3 := f6.ext0 hEa
        have hOl8 := hO8.mono RV.mono (mk_ext hEa)
        have hEwl := hEw8.trans hEa
        have hstart := hid (⟨.inl ⟨by rw [hol'.out], rfl⟩, fun r hr => by simp at hr, fun r hr => by simp at hr, fun h => absurd h (Nat.lt_irrefl _), fun h => by omega⟩ : Sofar 1 O (ol + 1) [] ∧ BM uB [] ∧ (∀ r ∈ ([] : List (List Rat)), r.length = 1) ∧ (0 < 0 → Bd 1 O (ol + 1) (vec (sgL 1 [1]))) ∧ (1 < 0 → Bd 1 O (ol + 1) (vec (sgL (-1) [1]))))
        have hfinal := hid (fun (cnt : Nat) (us : List (List Rat)) (h1 : Sofar 1 O cnt us) (h2 : Bd 1 O cnt (vec (sgL 1 [1]))) (h3 : Bd 1 O cnt (vec (sgL (-1) [1]))) => (by
          obtain ⟨g1, g2⟩ := one_done hOs hOz hOne h1 h2 h3
          exact hback.out cnt us g1 g2 : IsDep 1 (vecs z) (cnt + (n - ol)) ∧ Wit 1 (vecs z) (cnt + (n - ol)) (vecs us)))
        have hOz' := hid hOz
        have hOs' := hid hOs
        have hOB' := hid hOB
        have hlow : w.heap.size ≤ bc ∧ w.heap.size ≤ bs := by omega
        have hn64 : n ≤ 64 := hn
        rw [hnl]
        clear f1 f3 f4 f5 f6 f7 hMO hns bx bx2 hE7 hE67 hEq7 hnu hnu5 hb e0 e1 e2 hOS hOB hOz hOs hT hOf hOcol hu6 hnlL hnl hE5 hE6 hpos hrn hrc hLL hE8 hX8 hO8 hEa hback ih'
        go_wp2_with (first | ((with_reducible show wpList _ _ _ (⟨_, .store 25 _ _, _, _, _, _⟩ :: _) _ _); refine st_cell tyRatss rfl rfl rfl rfl bx0 bx1 ?_) | ((with_reducible show wpList _ _ _ (⟨_, .store 3 _ _, _, _, _, _⟩ :: _) _ _); refine st_cell tyInt rfl rfl rfl rfl q1 q2 ?_))
        go_loopw [68] (fun cx wr => ∃ (q cnt : Nat) (dv : Value) (us : List (List Rat)), cx = .int .i64 q ∧ q ≤ 2 ∧ cnt ≤ ol + 1 ∧ Bx wr bc #[.int .i64 (cnt : Int)] 3 ∧ Bx wr bs #[dv] 25 ∧ MV (mk Xo wr) dv us ∧ Hid (Sofar 1 O cnt us ∧ BM uB us ∧ (∀ r ∈ us, r.length = 1) ∧ (0 < q → Bd 1 O cnt (vec (sgL 1 [1]))) ∧ (1 < q → Bd 1 O cnt (vec (sgL (-1) [1])))) ∧ ExtX (twoB bc bs) wl wr) (fun cx _ => 2 - (intOf cx).toNat)
        case atStart => exact ⟨0, ol + 1, _, [], rfl, Nat.zero_le _, Nat.le_refl _, l1, l2, SlV.zero _ _ _, hstart, ExtX.refl _⟩
        case round =>
          obtain ⟨q, cnt, dv, us, rfl, hq, hcl, t1, t2, hdv, hf, hE⟩ := hrel
          clear l1 l2 hstart kb kd kb5 kb7 kb8 kd8 q1 q2 bx0 bx1
          have l4 := l3.ext hE htb
          have hXr2 : HX Xo wr := hXl.ext hE
          have hEwr : Ext w wr := hEwl.then_ hE fun i hi _ => by simp [twoB]; omega
          by_cases hlt : q < 2
          · have hqL : q < LL.length := by rw [hLLl.out]; exact hlt
            have k00 := (hlit.mono (IntIn.mono _) (mk_mono hE htwo)).int q hqL
            have hsv := hLLv.out q hqL
            obtain ⟨sg, hsg⟩ : ∃ sg, LL[q] = sg := ⟨_, rfl⟩
            rw [hsg] at k00 hsv
            have hsg1 : sg = 1 ∨ sg = -1 := by omega
            have hsgi : -9223372036854775808 ≤ sg ∧ sg ≤ 9223372036854775807 := by omega
            have hOr := hOl8.mono RV.mono (mk_mono hE htwo)
            obtain ⟨U, hU⟩ : ∃ U, sgL sg [1] = U := ⟨_, rfl⟩
            have hUe : Hid ([(sg : Rat)] = U) := hid (by rw [← hU]; simp [sgL])
            have hUz : Hid (nz 1 (vec U)) := hid (by rw [← hU]; exact sgL_nz hsg1 one_nz)
            have hUs : Hid (∀ v : List Rat, (0 < dot 1 (vec U) (vec v) ↔ (v.getD 0 0).num.sign = sg)) := hid fun v => by rw [← hU]; exact sgn_pos hsg1 v
            have hnext : Hid (∀ (cnt' : Nat) (us' : List (List Rat)), cnt' ≤ cnt → Sofar 1 O cnt' us' → BM uB us' → (∀ r ∈ us', r.length = 1) → Bd 1 O cnt' (vec U) → (Sofar 1 O cnt' us' ∧ BM uB us' ∧ (∀ r ∈ us', r.length = 1) ∧ (0 < q + 1 → Bd 1 O cnt' (vec (sgL 1 [1]))) ∧ (1 < q + 1 → Bd 1 O cnt' (vec (sgL (-1) [1]))))) := hid fun cnt' us' h1 h2 h3 h4 h5 => by
              obtain ⟨_, _, _, f4, f5⟩ := hf.out
              subst hU
              refine ⟨h2, h3, h4, fun _ => ?_, fun hq1 => ?_⟩
              · rcases hsv with ⟨rfl, rfl⟩ | ⟨rfl, rfl⟩
                · exact h5
                · exact (f4 (by decide)).le h1
              · rcases hsv with ⟨rfl, rfl⟩ | ⟨rfl, rfl⟩
                · omega
                · exact h5
            have kb := l4.cell 0 rfl
            obtain ⟨wo, hwo⟩ : ∃ wo, wo = wr := ⟨_, rfl⟩
            subst hwo
            clear hsv hU hsg
            go_wp2_with (with_reducible refine up_ix1 slInt (by omega) (by assumption) ?_)
            go_loopw [17, 74] (fun nn cx wx => ∃ (i P : Nat), cx = .int .i64 i ∧ i ≤ ol ∧ nn = .int .i64 (P : Int) ∧ P ≤ i ∧ Hid (P = posM 1 U (O.take i)) ∧ Ext wo wx) (fun _ cx _ => ol - (intOf cx).toNat)
            case atStart => exact ⟨0, 0, rfl, Nat.zero_le _, rfl, Nat.zero_le _, hid rfl, ExtX.refl _⟩
            case round =>
              obtain ⟨i, P, rfl, hi, rfl, hPi, hPe, hEi⟩ := hrel
              clear k00 kb
              have hXi : HX Xo wr := hXr2.ext hEi
              by_cases hli : i < ol
              · have hiO : i < O.length := by rw [hol'.out]; exact hli
                obtain ⟨a1, c1, hX1, hcc1, hcl1, hq1⟩ := (hOr.mono RV.mono (mk_ext hEi)).row i hiO
                have k00 := hcc1.out noY wr (ExtX.refl _) rfl
                have hvl := hOs'.out.2 O[i] (List.getElem_mem _)
                have hps := hid (posM_succ 1 U hiO)
                have hus := hid (hUs.out O[i])
                have h0v : 0 < O[i].length := by rw [hvl]; decide
                have hge : Hid (O[i].getD 0 0 = O[i][0]) := hid (by simp [List.getD_eq_getElem?_getD, h0v])
                rw [hvl] at k00 hcl1
                have hh1 : Hd a1 1 := by have := hq1.hd; rw [hvl] at this; exact this
                rw [hge.out] at hus
                clear hcc1 hvl
                by_cases hsgn : O[i][0].num.sign = sg
                · have hP2 : Hid (P + 1 = posM 1 U (O.take (i + 1))) := hid (by rw [hps.out, if_pos (hus.out.2 hsgn), ← hPe.out])
                  go_wp2_with (first | (with_reducible refine up_ix1 slRats (by omega) (by assumption) ?_) | (with_reducible refine up_ixn slRat (by omega) (by assumption) ?_) | ((with_reducible show wpList _ _ _ (⟨_, .load 34 _, _, _, _, _⟩ :: _) _ _); refine st_loadElem stRat 0 hq1 h0v rfl (by simp) QV.agg ?_; intro u5 hu5; obtain ⟨s5, a5, n5, c5, d5, m5, e5, rfl⟩ := hu5.shape))
                  refine (qsign Xo _ _ _ hXi hu5).mono ?_
                  rintro e w7 ⟨hE7, rfl⟩
                  rw [hsgn]
                  have hE9 := hEi.trans hE7
                  clear k00
                  go_wp2_with fail
                  go_roundw
                  case rel => exact ⟨i + 1, P + 1, by go_num, by omega, by go_num, by omega, hP2, hE9⟩
                  case measure => simp [intOf]; omega
                · have hP2 : Hid (P = posM 1 U (O.take (i + 1))) := hid (by rw [hps.out, if_neg (fun h => hsgn (hus.out.1 h)), ← hPe.out]; rfl)
                  go_wp2_with (first | (with_reducible refine up_ix1 slRats (by omega) (by assumption) ?_) | (with_reducible refine up_ixn slRat (by omega) (by assumption) ?_) | ((with_reducible show wpList _ _ _ (⟨_, .load 34 _, _, _, _, _⟩ :: _) _ _); refine st_loadElem stRat 0 hq1 h0v rfl (by simp) QV.agg ?_; intro u5 hu5; obtain ⟨s5, a5, n5, c5, d5, m5, e5, rfl⟩ := hu5.shape))
                  refine (qsign Xo _ _ _ hXi hu5).mono ?_
                  rintro e w7 ⟨hE7, rfl⟩
                  have hbq : ((O[i][0]).num.sign == sg) = false := beqF hsgn
                  have hE9 := hEi.trans hE7
                  clear k00
                  go_wp2_with fail
                  go_roundw
                  case rel => exact ⟨i + 1, P, by go_num, by omega, rfl, by omega, hP2, hE9⟩
                  case measure => simp [intOf]; omega
              · have hio : i = ol := by omega
                have hPf : P = posM 1 U O := by rw [hPe.out, List.take_of_length_le (by rw [hol'.out, hio]; exact Nat.le_refl _)]
                have hPf' := hid hPf
                have t3 := t1.ext0 hEi
                have t4 := t2.ext0 hEi
                have k3 := t3.cell 0 rfl
                have hd3 := mkx MV.mono hdv hEi
                obtain ⟨f1, f2, f3, _⟩ := hf.out
                have hEz : ExtX (twoB bc bs) wl wr := hE.then_ hEi (fun _ _ _ => rfl)
                by_cases hPc : P < cnt
                rotate_left 1
                · have hN2 := hid (hnext.out cnt us (Nat.le_refl _) f1 f2 f3 (bd_triv (by rw [← hPf]; omega)))
                  clear hPf f1 f2 f3
                  go_wp2_with fail
                  go_roundw
                  case rel => exact ⟨q + 1, cnt, dv, us, by go_num, by omega, hcl, t3, t4, hd3, hN2, hEz⟩
                  case measure => simp [intOf]; omega
                · have hwit := (st_one hUz.out (one_on hOz'.out hUz.out)).1
                  rw [← hPf] at hwit
                  have hUBr : BR 1 U := fun q hq => by
                    rw [← hUe.out] at hq; rw [List.mem_singleton.1 hq]
                    rcases hsg1 with rfl | rfl <;> decide +kernel
                  have hN2 := hid (hnext.out P [U] (by omega) (.inr hwit) (fun r hr => by rw [List.mem_singleton.1 hr]; exact fun q hq => Nat.le_trans (hUBr q hq) (by decide)) (fun r hr => by rw [List.mem_singleton.1 hr, ← hUe.out]; rfl) (bd_triv (by rw [← hPf]; exact Nat.le_refl _)))
                  clear hPf f1 f2 f3 hwit
                  go_wp2_with fail
                  refine (qfrom Xo wr sg hXi hsgi.1 hsgi.2).mono ?_
                  rintro e w5 ⟨hE5, u5, rfl, hu5⟩
                  obtain ⟨s5, a5, n5, c5, d5, m5, e5, rfl⟩ := hu5.shape
                  have hX5 : HX Xo w5 := hXi.ext hE5
                  have hL1 := (lit_rat1 Xo w5 s5 a5 n5 c5 d5 m5 e5 (sg : Rat) 34 hX5 hu5).sl QC.elem
                  have hEA : Ext w5 (w5.alloc (.cells #[.bool s5, .slice a5 n5 c5, .slice d5 m5 e5] 34)) := (ExtX.refl _).alloc _
                  obtain ⟨wA, hwA⟩ : ∃ wA, w5.alloc (.cells #[.bool s5, .slice a5 n5 c5, .slice d5 m5 e5] 34) = wA := ⟨_, rfl⟩
                  obtain ⟨gA, hgA⟩ : ∃ gA : Option Addr, some ⟨w5.heap.size, 0, none⟩ = gA := ⟨_, rfl⟩
                  rw [hwA, hgA, hUe.out] at hL1
                  rw [hwA] at hEA
                  have hXA : HX Xo wA := hX5.ext hEA
                  have hUl1 : U.length = 1 := by rw [← hUe.out]; rfl
                  have hL2 := lit_row1 Xo wA gA 1 1 U 27 hXA ⟨gA, 1, by rw [hUl1], by rw [hUl1]; exact Nat.le_refl _, hL1.qv fun q hq => Nat.le_trans (hUBr q hq) (by decide)⟩
                  have hEB : Ext wA (wA.alloc (.cells #[.slice gA 1 1] 27)) := (ExtX.refl _).alloc _
                  obtain ⟨wB, hwB⟩ : ∃ wB, wA.alloc (.cells #[.slice gA 1 1] 27) = wB := ⟨_, rfl⟩
                  obtain ⟨gB, hgB⟩ : ∃ gB : Option Addr, some ⟨wA.heap.size, 0, none⟩ = gB := ⟨_, rfl⟩
                  rw [hwB, hgB] at hL2
                  rw [hwB] at hEB
                  have hErB : Ext wr wB := hE5.trans (hEA.trans hEB)
                  have y1 := t3.ext0 hErB
                  have y2 := t4.ext0 hErB
                  have z1 := y1.cell 0 rfl
                  have z2 := y1.frozen 0
                  obtain ⟨y3, hE6⟩ := Bx.store y1 (.int .i64 (P : Int))
                  have y4 := y2.ext hE6 (ob_other (by omega))
                  have z3 := y4.cell 0 rfl
                  have z4 := y4.frozen 0
                  obtain ⟨y5, hE7⟩ := Bx.store y4 (.slice gB 1 1)
                  have y6 := y3.ext hE7 (ob_other (by omega))
                  have hEst : ExtX (twoB bc bs) wB _ := (hE6.weaken (Z := twoB bc bs) fun k _ hk => ob_other fun e => by subst e; simp [twoB] at hk).trans (hE7.weaken fun k _ hk => ob_other fun e => by subst e; simp [twoB] at hk)
                  have hm8 : MV (mk Xo _) (.slice gB 1 1) [U] := MV.mono _ _ _ _ (mk_mono hEst htwo) ⟨gB, 1, rfl, Nat.le_refl _, hL2.sl RV.elem⟩
                  have hEf := (hEz.then_ hErB (fun _ _ _ => rfl)).trans hEst
                  clear hL1 hL2 hu5 y1 y2 y3 y4 hE6 hE7 t3 t4 k3
                  go_wp2_with (first | ((with_reducible show wpList _ _ _ (⟨_, .store 3 _ _, _, _, _, _⟩ :: _) _ _); refine st_cell tyInt rfl rfl rfl rfl z1 z2 ?_) | ((with_reducible show wpList _ _ _ (⟨_, .store 25 _ _, _, _, _, _⟩ :: _) _ _); refine st_cell tyRatss rfl rfl rfl rfl z3 z4 ?_))
                  go_roundw
                  case rel => exact ⟨q + 1, P, .slice gB 1 1, [U], by go_num, by omega, by omega, y6, y5, hm8, hN2, hEf⟩
                  case measure => simp [intOf]; omega
          · have hq2 : q = 2 := by omega
            subst hq2
            obtain ⟨f1, f2, f3, f4, f5⟩ := hf.out
            obtain ⟨hfd, hfw⟩ := hfinal.out cnt us f1 (f4 (by decide)) (f5 (by decide))
            have hfd' := hid hfd
            have hfw' := hid hfw
            have hf2 := hid f2
            have hf3 := hid f3
            obtain ⟨da, dca, hdve, _, _⟩ := id hdv
            subst hdve
            have hEd : Ext wr wr.drew := (ExtX.refl wr).drew
            have m1 := (t1.ext0 hEd).cell 0 rfl
            have m2 := (t1.ext0 hEd).frozen 0
            have m3 := (t2.ext0 hEd).cell 0 rfl
            have m4 := (t2.ext0 hEd).frozen 0
            have n1 := t1.cell 0 rfl
            have n2 := t1.frozen 0
            have n3 := t2.cell 0 rfl
            have n4 := t2.frozen 0
            have hwr2 : IntKind.i64.wrap ((cnt : Int) + ((n : Int) - (ol : Int))) = ((cnt + (n - ol) : Nat) : Int) := by rw [IntWalk.i64_in _ (by omega)]; omega
            obtain ⟨y3, hE6⟩ := Bx.store t1 (.int .i64 ((cnt + (n - ol) : Nat) : Int))
            have y4 := t2.ext hE6 (ob_other (by omega))
            have p1 := y4.cell 0 rfl
            have p2 := y4.frozen 0
            obtain ⟨y5, hE7⟩ := Bx.store y4 (.slice da us.length dca)
            have y6 := y3.ext hE7 (ob_other (by omega))
            have hEst : ExtX (twoB bc bs) wr _ := (hE6.weaken (Z := twoB bc bs) fun k _ hk => ob_other fun e => by subst e; simp [twoB] at hk).trans (hE7.weaken fun k _ hk => ob_other fun e => by subst e; simp [twoB] at hk)
            have hm8 := MV.mono _ _ _ _ (mk_mono hEst htwo) hdv
            rw [← hXo] at hm8
            have hm9 := MV.mono _ _ _ _ le_unbox hm8
            have hEf : Ext w _ := (hEwr.then_ hEst fun i hi _ => by simp [twoB]; omega).drew
            clear hfd hfw f1 f2 f3 f4 f5 hf
            go_wp2_with fail
            go_region
            all_goals
              have y7 := y6.ext0 ((ExtX.refl (Y := noY) _).drew)
              have y8 := y5.ext0 ((ExtX.refl (Y := noY) _).drew)
              clear m1 m2 m3 m4 n1 n2 n3 n4 p1 p2
              go_wp2_with fail
              exact bodyPost_ret (results_cells2 rfl rfl rfl aggInt aggRatss (y7.cell 0 rfl) (y8.cell 0 rfl)) rfl ⟨hEf, cnt + (n - ol), _, us, rfl, hm9, hf2.out, hf3.out, hfd'.out, hfw'.out⟩
      have hc1' : ((c : Int) == 1) = false := beqF (by omega)
      have hlay : Lay w.heap.size bo bu bc bd bs w8.heap.size := by
        rw [hbd]
        constructor <;> omega
      have hle8 : Le (mk Xo w7) (mk (hidS X bc bs w8.heap.size) w8) := mk_over hE8 (fun k _ hk => by
        have : bc = k := by simpa [ob] using hk
        exact hin4 k (by omega) (by omega)) fun k hk hz => by
        simp only [hidS, twoB, ownB, Bool.or_eq_true, Bool.and_eq_true, beq_iff_eq, decide_eq_true_eq] at hz
        rcases hz with (h | h | h) | h
        · rw [← hXo]; exact hidB_X h
        · exact hin4 k (by omega) (by omega)
        · exact hin4 k (by omega) (by omega)
        · omega
      have hst8 : BSt X w bo bu bc bd bs w8.heap.size c oo ol oc (.slice no nl nc) O (nullM O c) (ol + 1) (.slice none 0 0) [] w8 :=
        ⟨hEw8, f6, f7, f3, f4, f5, MV.mono _ _ _ _ hle8 (mkx MV.mono hMO hEq7), MV.mono _ _ _ _ hle8 ⟨no, nc, by rw [hnl], by rw [hnl]; exact hnc, hns.mono RV.mono (mk_ext hE67)⟩, SlV.zero _ _ _⟩
      have hinv0 : BInv X w bo bu bc bd bs w8.heap.size c oo ol oc (.slice no nl nc) O (nullM O c) [] w8 := ⟨ol + 1, _, [], hst8, .inl ⟨by rw [hol'.out], rfl⟩, fun r hr => by simp at hr, fun r hr => by simp at hr, fun s hs => by simp at hs⟩
      have hcb := subsets_any 92 ol r #[.pointer (some ⟨bo, 0, none⟩), .pointer (some ⟨bu, 0, none⟩), .pointer (some ⟨bc, 0, none⟩), .pointer (some ⟨bd, 0, none⟩), .pointer (some ⟨bs, 0, none⟩)] (BInv X w bo bu bc bd bs w8.heap.size c oo ol oc (.slice no nl nc) O (nullM O c)) w8 (fun _ _ => rfl) (by omega) (by omega)
        (fun done W W' hi hE => hi.own hlay hE)
        (fun done s W hi hss hsl hB9 => by
          obtain ⟨rest, hrest⟩ := hss
          have hmem : s ∈ combs ol r 0 := by rw [← hrest]; simp
          obtain ⟨m1, m2, _⟩ := combs_mem ol r 0 s hmem
          subst m1
          exact try_any X w bo bu bc bd bs w8.heap.size ol c B oo oc _ O (nullM O c) done s W (fun m hm => ih'.out m (by omega)) hOs (by omega) (by omega) hc3 hOB hB1 hB hOz hOne rfl hr hlay hX hi (fun x hx => by have := m2 x hx; rw [hol'.out]; omega) hsl hB9) hinv0
      have hcb' := hid hcb
      have hfinal := hid (fun (cnt : Nat) (us : List (List Rat)) (h1 : Sofar c O cnt us) (h2 : ∀ s ∈ combs ol r 0, Tried c (vecs O) (vecs (nullM O c)) cnt (s.map Int.toNat)) => (by
        obtain ⟨g1, g2⟩ := st_done hOs hOz hOne hr h1 (fun I a b d => all_tried ol h2 I a b (by rw [← hol'.out]; exact d))
        exact hback.out cnt us g1 g2 : IsDep c (vecs z) (cnt + (n - ol)) ∧ Wit c (vecs z) (cnt + (n - ol)) (vecs us)))
      have hlay' := hid hlay
      have hr64 : r ≤ 64 := by omega
      have hcn := hid (fun cnt us (h : Sofar c O cnt us) => (by
        have := h.le
        rw [hol'.out] at this; exact this : cnt ≤ ol + 1))
      have hbu' := hid hbu
      rw [hnl]
      clear hst8 hinv0 hcb f1 f3 f4 f5 f6 f7 hle8 hMO hns bx bx2 hE7 hE8 hE67 hEq7 hnu hnu5 hb e0 e1 e2 hOS hOB hOz hOs hT hOf hOcol hu6 hnlL hnl hE5 hE6 hpos hrn hrc
      rcases Nat.eq_zero_or_pos r with rfl | hrp
      rotate_left 1
      have hr1 : ((r : Int) + 1 == 1) = false := beqF (by omega)
      all_goals
        go_wp2_with (first | ((with_reducible show wpList _ _ _ (⟨_, .store 25 _ _, _, _, _, _⟩ :: _) _ _); refine st_cell tyRatss rfl rfl rfl rfl bx0 bx1 ?_) | ((with_reducible show wpList _ _ _ (⟨_, .store 3 _ _, _, _, _, _⟩ :: _) _ _); refine st_cell tyInt rfl rfl rfl rfl q1 q2 ?_))
        refine hcb'.out.mono ?_
        rintro e w9 ⟨rfl, cnt, dv, us, hst, hSo, hUB, hUl, hTr⟩
        obtain ⟨hfd, hfw⟩ := hfinal.out cnt us hSo hTr
        have hfd' := hid hfd
        have hfw' := hid hfw
        have hcl := hcn.out cnt us hSo
        obtain ⟨da, dca, hdv, _, _⟩ := id hst.r3
        subst hdv
        have hstd := hst.step ((ExtX.refl (Y := noY) w9).drew)
        have m1 := hstd.b3.cell 0 rfl
        have m2 := hstd.b3.frozen 0
        have m3 := hstd.b5.cell 0 rfl
        have m4 := hstd.b5.frozen 0
        obtain ⟨p1, p2, hst11, hE11⟩ := hst.put hlay'.out (cnt + (n - ol)) _ us hst.r3
        have n1 := hst.b3.cell 0 rfl
        have n2 := hst.b3.frozen 0
        have n3 := hst.b5.cell 0 rfl
        have n4 := hst.b5.frozen 0
        have hwr2 : IntKind.i64.wrap ((cnt : Int) + ((n : Int) - (ol : Int))) = ((cnt + (n - ol) : Nat) : Int) := by rw [IntWalk.i64_in _ (by omega)]; omega
        clear hfd hfw hst hstd hTr hSo q1 q2 bx0 bx1 kb8 kd8 kb7 kb5 kb kd hw8 hw7
        go_wp2_with fail
        go_region
        all_goals
          have hstF := hst11.step ((ExtX.refl (Y := noY) _).drew)
          have hmF := MV.mono _ _ _ _ (mk_sub (X := X) fun k _ hk => by simp [hidS, hk]) hstF.r3
          clear m1 m2 m3 m4 n1 n2 n3 n4 p1 p2
          go_wp2_with fail
          exact bodyPost_ret (results_cells2 rfl rfl rfl aggInt aggRatss (hstF.b3.cell 0 rfl) (hstF.b5.cell 0 rfl)) rfl ⟨hstF.ext, cnt + (n - ol), _, us, rfl, hmF, hUB, hUl, hfd'.out, hfw'.out⟩
end Go.Proofs.YthipmbmjodhiiaaGreat


namespace Go.Lin
open Go.Lim Go.Rep
open Classical in
/-- The depth of the origin. -/
noncomputable def depN (c : Nat) (z : List Vec) : Nat := if h : ∃ k, IsDep c z k then h.choose else 0
theorem depN_eq {c k : Nat} {z : List Vec} (h : IsDep c z k) : depN c z = k := by
  unfold depN
  rw [dif_pos ⟨k, h⟩]
  exact (Exists.choose_spec (⟨k, h⟩ : ∃ k, IsDep c z k)).uniq h
def depOk (p : Mat) (y : List Rat) : Bool := ptsB p && decide (y.length = colsL p)
/-- What Depth returns. -/
noncomputable def depV (p : Mat) (y : List Rat) : Nat := if depOk p y then depN (colsL p) (vecs (fromM (colsL p) p y)) else 0
theorem depV_no {p : Mat} {y : List Rat} (h : depOk p y = false) : depV p y = 0 := by unfold depV; rw [h]; rfl
theorem depV_yes {p : Mat} {y : List Rat} {k : Nat} (h : depOk p y = true) (hk : IsDep (colsL p) (vecs (fromM (colsL p) p y)) k) : depV p y = k := by unfold depV; rw [h, if_pos rfl]; exact depN_eq hk
end Go.Lin
namespace Go.Proofs.YthipmbmjodhiiaaGreat
open Go.RowKit Go.Rep Go.Lim Go.Lin
theorem depOk_parts {p : Mat} {y : List Rat} (h : depOk p y = true) : ptsB p = true ∧ y.length = colsL p := by
  unfold depOk at h
  rw [Bool.and_eq_true, decide_eq_true_eq] at h
  exact h
/-- What the points less a point are. -/
theorem from_facts {p : Mat} {y : List Rat} {B : Nat} (h : depOk p y = true) (hpB : BM B p) (hyB : BR B y) (hB : 1 ≤ B) : (∀ r ∈ p, r.length = colsL p) ∧ p.length ≤ 64 ∧ 1 ≤ p.length ∧ 1 ≤ colsL p ∧ colsL p ≤ 3 ∧ Shp p.length (colsL p) (fromM (colsL p) p y) ∧ BM (2 * B + 1) (fromM (colsL p) p y) := by
  obtain ⟨h1, h2⟩ := depOk_parts h
  obtain ⟨g1, g2, g3, g4, _⟩ := ptsB_true.1 h1
  exact ⟨ptsB_row h1, g2, g1, g3, g4, fromM_shp _ _ _, fromM_bm hpB hyB hB⟩

set_option maxRecDepth 100000 in
theorem hdepth_any (X : Nat → Bool) (w : World) (u v : Value) (p : Mat) (y : List Rat) (B : Nat) (hX : HX X w) (hu : MV (mk X w) u p) (hv : RV (mk X w) v y) (hp : p.length ≤ 1000) (hpB : BM B p) (hyB : BR B y) (hB : 1 ≤ B) (hBB : B ≤ 3000) :
    Calls Tryz.prog 23 #[u, v] w (NEOut w (depV p y) (okE (depOk p y))) := by
  have hfit := fun xo xl xc => hfits_any X w u p xo xl xc hu (by omega)
  have hv0 := hv
  obtain ⟨va, vca, rfl, hvca, hva⟩ := hv
  have hfi : Calls Tryz.prog 57 #[u, .slice va y.length vca] w (fun e w' => w' = w ∧ e = .returned (.bool (depOk p y))) := hfit va y.length vca
  clear hfit
  cases hok : depOk p y
  · rw [hok] at hfi
    have hv1 := hid (depV_no hok)
    clear hok
    go_enter Tryz.func23, Tryz.ntmps23
    go_wp2_with fail
    refine hfi.mono ?_
    rintro e w1 ⟨rfl, rfl⟩
    go_wp2_with fail
    go_ret2
    exact ⟨ExtX.refl _, by rw [hv1.out]; rfl⟩
  rw [hok] at hfi
  obtain ⟨f1, f2, f3, f4, f5, f6, f7⟩ := from_facts hok hpB hyB hB
  obtain ⟨_, hyc⟩ := depOk_parts hok
  have hval := hid (fun k h => depV_yes (k := k) hok h)
  have hcen := hcentred X w u (.slice va y.length vca) p y (colsL p) hX hu hv0 f1 hyc (by omega) hp
  obtain ⟨c, hc⟩ : ∃ c, colsL p = c := ⟨_, rfl⟩
  rw [hc] at f1 f4 f5 f6 f7 hval hcen hyc
  obtain ⟨M, hM⟩ : ∃ M, fromM c p y = M := ⟨_, rfl⟩
  rw [hM] at f6 f7 hval hcen
  rw [hyc] at hfi hcen ⊢
  have hbst := hid (fun w' um (hX' : HX X w') (hm : MV (mk X w') um M) => best_any p.length X w' um M c (2 * B + 1) hX' hm f6 f2 f4 f5 f7 (by omega) (by omega))
  have f7' := hid f7
  clear hok f1 f6 f7 hM hc hv0 hva hpB hyB hu hyc
  go_enter Tryz.func23, Tryz.ntmps23
  go_wp2_with fail
  refine hfi.mono ?_
  rintro e w1 ⟨rfl, rfl⟩
  go_wp2_with fail
  refine hcen.mono ?_
  rintro e w2 ⟨hE2, um, rfl, hm⟩
  have hb := hbst.out w2 um (hX.ext hE2) (hm.mv fun r hr q hq => Nat.le_trans (f7'.out r hr q hq) (by omega))
  go_wp2_with fail
  refine hb.mono ?_
  rintro e w3 ⟨hE3, k, dv, us, rfl, _, _, _, hk, _⟩
  have hkv := hid (hval.out k hk)
  clear hb hk
  go_wp2_with fail
  go_ret2
  exact ⟨hE2.trans hE3, by rw [hkv.out]; rfl⟩

end Go.Proofs.YthipmbmjodhiiaaGreat


namespace Go.Proofs.YthipmbmjodhiiaaGreat
open Go.RowKit Go.Rep Go.Lim

/-- A rational number of at most k digits is drawn. -/
def TQOut (X : Nat → Bool) (tb : Nat) (R : Mem → Value → Rat → Prop) (k : Nat) (w : World) (e : Ending) (w' : World) : Prop := ExtX (tbm tb) w w' ∧ TapeR X tb w' ∧ ∃ u q, e = .returned u ∧ R (mk X w') u q ∧ hq q ≤ k

theorem TapeR.box {X : Nat → Bool} {tb nb : Nat} {w W : World} (h : TapeR X tb w) (hE : Ext w W) : TapeR (hidB X w.heap.size nb) tb W := by
  have hlt := h.lt
  obtain ⟨hX, lo, l, cap, at_, h1, h2, h3, h4⟩ := h
  exact ⟨hidB_X hX, lo, l, cap, at_, by rw [hE.block tb hlt rfl]; exact h1, h2, h3, h4.mono (IntIn.mono _) (le_boxes hE)⟩
theorem TapeR.unbox {X : Nat → Bool} {tb b nb : Nat} {w : World} (h : TapeR (hidB X b nb) tb w) (hX : X tb = true) : TapeR X tb w := by
  obtain ⟨_, lo, l, cap, at_, h1, h2, h3, h4⟩ := h
  exact ⟨hX, lo, l, cap, at_, h1, h2, h3, h4.mono (IntIn.mono _) le_unbox⟩
theorem TapeR.store {X : Nat → Bool} {tb b nb : Nat} {w w' : World} (h : TapeR (hidB X b nb) tb w) (hE : ExtX (ob (some ⟨b, 0, Option.none⟩)) w w') (hb : 0 < nb) (ht : tb ≠ b) : TapeR (hidB X b nb) tb w' :=
  h.extY hE (fun k hk => by
    have : k = b := by
      have := hk
      simp [ob] at this
      omega
    subst this; simp [hidB]; omega) (ob_other ht)
theorem _root_.Go.Rep.ExtX.tbox {tb b : Nat} {w w4 w7 : World} (h : ExtX (tbm tb) w w4) (hE : ExtX (ob (some ⟨b, 0, none⟩)) w4 w7) (hb : w.heap.size ≤ b) : ExtX (tbm tb) w w7 := h.then_ hE (fun i hi _ => ob_other (by omega))
theorem lg_le1 {n : Nat} (h : n < 4294967296) : lg n ≤ 1 := by
  by_cases h0 : n = 0
  · subst h0; simp [lg_zero]
  · rw [lg_one_iff (by omega) h]; exact Nat.le_refl _
theorem lgI {a : Int} (h1 : -100000 ≤ a) (h2 : a ≤ 100000) : lg a.natAbs ≤ 1 := lg_le1 (by omega)
theorem hq_frac {a k : Int} (h1 : -100000 ≤ a) (h2 : a ≤ 100000) (h3 : -100000 ≤ k) (h4 : k ≤ 100000) : hq ((a : Rat) / (k : Rat)) ≤ 2 := by
  have := hq_div (a : Rat) (k : Rat)
  have := hq_int a 1 (lgI h1 h2) (by omega)
  have := hq_int k 1 (lgI h3 h4) (by omega)
  omega

set_option maxRecDepth 100000 in
theorem trat_any (X : Nat → Bool) (tb : Nat) (w : World) (ht : TapeR X tb w) (hX : HX X w) : Calls Tryz.prog 49 #[.pointer (some ⟨tb, 0, none⟩)] w (TQOut X tb QC 2 w) := by
  have htb := ht.lt
  have htX := ht.1
  obtain ⟨W, hW, hE, b0, hz⟩ := boxes1 w #[.bool false, .slice none 0 0, .slice none 0 0] 34
  have hXW : HX (hidB X w.heap.size 1) W := hX.boxes hz
  have htW : TapeR (hidB X w.heap.size 1) tb W := ht.box hE
  obtain ⟨b, hb⟩ : ∃ b, w.heap.size = b := ⟨_, rfl⟩
  have hbw : w.heap.size ≤ b := by omega
  have htb' : tb ≠ b := by omega
  have hbt : b ≠ tb := by omega
  rw [hb] at b0 hz hXW htW
  have hEb : ExtX (tbm tb) w W := ExtX.of hE
  clear hE
  go_enter Tryz.func49, Tryz.ntmps49
  go_wp2_with fail
  refine (next_any (hidB X b 1) tb 8 _ htW (by omega)).mono ?_
  rintro e w1 ⟨hE1, ht1, m, rfl, hm⟩
  have b1 := b0.ext hE1 (tbm_ne hbt)
  have hX1 := hXW.ext hE1
  have hF1 := hEb.trans hE1
  clear b0 hXW htW hEb hE1
  by_cases h6 : m = 6
  · subst h6
    go_wp2_with fail
    refine (next_any (hidB X b 1) tb 13 _ ht1 (by omega)).mono ?_
    rintro e w2 ⟨hE2, ht2, m2, rfl, hm2⟩
    have hm2' : m2 < 13 := by omega
    have b2 := b1.ext hE2 (tbm_ne hbt)
    have hX2 := hX1.ext hE2
    have hF2 := hF1.trans hE2
    go_wp2_with fail
    refine (next_any (hidB X b 1) tb 6 _ ht2 (by omega)).mono ?_
    rintro e w3 ⟨hE3, ht3, m3, rfl, hm3⟩
    have hm3' : m3 < 6 := by omega
    have b3 := b2.ext hE3 (tbm_ne hbt)
    have hX3 := hX2.ext hE3
    have hF3 := hF2.trans hE3
    go_wp2_with fail
    refine (rqfraction (hidB X b 1) w3 _ _ hX3 (by omega) (by omega) (by omega) (by omega) (by omega) (Nat.le_trans (lgI (by omega) (by omega)) (by omega)) (Nat.le_trans (lgI (by omega) (by omega)) (by omega))).mono ?_
    rintro e w4 ⟨hE4, u4, rfl, hu4⟩
    obtain ⟨s6, a6, n6, c6, d6, k6, e6, rfl⟩ := hu4.shape
    have b4 := b3.ext0 hE4
    have ht4 := ht3.ext hE4
    have hF4 := hF3.trans (ExtX.of hE4)
    go_wp2_with ((with_reducible show wpList _ _ _ (⟨_, .store _ _ _, _, _, _, _⟩ :: _) _ _); refine st_storeBox stRat rfl rfl b4 rfl rfl (one3 _ _ _ _ _ _ _) ?_; intro w7 r1 r2)
    have h7 := QC.mono _ _ _ _ le_unbox (QC.mono _ _ _ _ (le_store r2 (by omega) (by omega)) hu4)
    exact bodyPost_ret (results_box rfl rfl stRat r1 rfl) rfl ⟨hF4.tbox r2 hbw, (ht4.store r2 (by omega) htb').unbox htX, _, _, rfl, h7, hq_frac (by omega) (by omega) (by omega) (by omega)⟩
  · by_cases h7 : m = 7
    · subst h7
      go_wp2_with fail
      refine (next_any (hidB X b 1) tb 2001 _ ht1 (by omega)).mono ?_
      rintro e w2 ⟨hE2, ht2, m2, rfl, hm2⟩
      have hm2' : m2 < 2001 := by omega
      have b2 := b1.ext hE2 (tbm_ne hbt)
      have hX2 := hX1.ext hE2
      have hF2 := hF1.trans hE2
      go_wp2_with fail
      refine (lit_pick (hidB X b 1) tb [1, 1, 7] _ _ _ w2 1 7 ht2 hX2 rfl rfl (by simp) (by simp) (hid (by simp))).mono ?_
      rintro e w3 ⟨hE3, ht3, m3, rfl, hm3, hm3'⟩
      have b3 := b2.ext hE3 (tbm_ne hbt)
      have hX3 := hX2.ext hE3
      have hF3 := hF2.trans hE3
      go_wp2_with fail
      refine (rqfraction (hidB X b 1) w3 _ _ hX3 (by omega) (by omega) (by omega) (by omega) (by omega) (Nat.le_trans (lgI (by omega) (by omega)) (by omega)) (Nat.le_trans (lgI (by omega) (by omega)) (by omega))).mono ?_
      rintro e w4 ⟨hE4, u4, rfl, hu4⟩
      obtain ⟨s6, a6, n6, c6, d6, k6, e6, rfl⟩ := hu4.shape
      have b4 := b3.ext0 hE4
      have ht4 := ht3.ext hE4
      have hF4 := hF3.trans (ExtX.of hE4)
      go_wp2_with ((with_reducible show wpList _ _ _ (⟨_, .store _ _ _, _, _, _, _⟩ :: _) _ _); refine st_storeBox stRat rfl rfl b4 rfl rfl (one3 _ _ _ _ _ _ _) ?_; intro w7 r1 r2)
      have h7 := QC.mono _ _ _ _ le_unbox (QC.mono _ _ _ _ (le_store r2 (by omega) (by omega)) hu4)
      exact bodyPost_ret (results_box rfl rfl stRat r1 rfl) rfl ⟨hF4.tbox r2 hbw, (ht4.store r2 (by omega) htb').unbox htX, _, _, rfl, h7, hq_frac (by omega) (by omega) (by omega) (by omega)⟩
    · have t6 : ((m : Int) == 6) = false := beqF (by omega)
      have t7 : ((m : Int) == 7) = false := beqF (by omega)
      go_wp2_with fail
      refine (next_any (hidB X b 1) tb 9 _ ht1 (by omega)).mono ?_
      rintro e w2 ⟨hE2, ht2, m2, rfl, hm2⟩
      have hm2' : m2 < 9 := by omega
      have b2 := b1.ext hE2 (tbm_ne hbt)
      have hX2 := hX1.ext hE2
      have hF2 := hF1.trans hE2
      go_wp2_with fail
      refine (rqfrom (hidB X b 1) w2 _ hX2 (by omega) (by omega)).mono ?_
      rintro e w4 ⟨hE4, u4, rfl, hu4⟩
      obtain ⟨s6, a6, n6, c6, d6, k6, e6, rfl⟩ := hu4.shape
      have b4 := b2.ext0 hE4
      have ht4 := ht2.ext hE4
      have hF4 := hF2.trans (ExtX.of hE4)
      go_wp2_with ((with_reducible show wpList _ _ _ (⟨_, .store _ _ _, _, _, _, _⟩ :: _) _ _); refine st_storeBox stRat rfl rfl b4 rfl rfl (one3 _ _ _ _ _ _ _) ?_; intro w7 r1 r2)
      have h7 := QC.mono _ _ _ _ le_unbox (QC.mono _ _ _ _ (le_store r2 (by omega) (by omega)) hu4)
      exact bodyPost_ret (results_box rfl rfl stRat r1 rfl) rfl ⟨hF4.tbox r2 hbw, (ht4.store r2 (by omega) htb').unbox htX, _, _, rfl, h7, Nat.le_trans (hq_int _ 1 (lgI (by omega) (by omega)) (by omega)) (by omega)⟩
end Go.Proofs.YthipmbmjodhiiaaGreat


namespace Go.Proofs.YthipmbmjodhiiaaGreat
open Go.RowKit Go.Rep Go.Lim
/-- A row of n numbers of at most k digits is drawn, laid in new blocks. -/
def TRowOut (X : Nat → Bool) (tb : Nat) (R : Mem → Value → Rat → Prop) (k n : Nat) (w : World) (e : Ending) (w' : World) : Prop := ExtX (tbm tb) w w' ∧ ∃ (ao : Option Addr) (l : List Rat) (cap : Nat), e = .returned (.slice ao n cap) ∧ l.length = n ∧ n ≤ cap ∧ BR k l ∧ TapeR (un X ao) tb w' ∧ OL R 3 X w.heap.size 34 w' ao cap l

theorem trow_any (X : Nat → Bool) (tb n : Nat) (w : World) (ht : TapeR X tb w) (hX : HX X w) (hn : n ≤ 1000) :
    Calls Tryz.prog 17 #[.pointer (some ⟨tb, 0, none⟩), .int .i64 (n : Int)] w (TRowOut X tb QC 2 n w) := by
  have hsub := tbm_sub ht.1
  go_enter Tryz.func17, Tryz.ntmps17
  go_wp2_with fail
  go_loopw [5, 6] (fun s c wr => ∃ (i : Nat) (oo : Option Addr) (co : Nat) (l : List Rat), c = .int .i64 i ∧ s = .slice oo i co ∧ l.length = i ∧ i ≤ n ∧ BR 2 l ∧ OL QC 3 X w.heap.size 34 wr oo co l ∧ TapeR (un X oo) tb wr ∧ ExtX (tbm tb) w wr) (fun _ c _ => n - (intOf c).toNat)
  case atStart => exact ⟨0, none, 0, [], rfl, rfl, rfl, Nat.zero_le _, fun x hx => by simp at hx, OL.nil _ _ _ _ _ _, ht.none, ExtX.refl _⟩
  case round =>
    obtain ⟨i, oo, co, l, rfl, rfl, hli, hin, hB, hO, htr, hE⟩ := hrel
    have hXr : HX X wr := hX.ext hE
    by_cases hlt : i < n
    · have hXu : HX (un X oo) wr := hO.unX hXr
      have hln := hid hli
      clear hli
      go_wp2_with fail
      refine (trat_any (un X oo) tb _ htr hXu).mono ?_
      rintro e w2 ⟨hE2, ht2, u6, q, rfl, hu6, hq6⟩
      obtain ⟨s6, a6, n6, c6, d6, k6, e6, rfl⟩ := hu6.shape
      have hO2 := hO.ext QC.elem hE2 (fun k _ hk => hsub k hk) (fun _ _ h => h)
      have hX2 : HX X w2 := hXr.ext hE2
      have hE3 := hE.trans hE2
      have hbase := hE3.size
      clear hO htr hE hE2 hXr hXu
      go_wp2_with (at_builtin; refine st_append1n (l := l) slRat rfl QC.elem (by omega) hX2 i hln.out rfl rfl hO2 (.agg #[.bool s6, .slice a6 n6 c6, .slice d6 k6 e6]) q rfl hu6 (by omega) (by omega) ?_; intro oo2 co2 w7 hO7 hE7 hor)
      have hE8 := hE3.own hO2 (Nat.le_refl _) hE7
      have ht3 := ht2.unstep (hO2.not_ob ht.1) hE7 hor
      have hB2 : BR 2 (l ++ [q]) := fun x hx => by
        rcases List.mem_append.1 hx with h | h
        · exact hB x h
        · rw [List.mem_singleton.1 h]; exact hq6
      have hl2 : (l ++ [q]).length = i + 1 := by rw [List.length_append, hln.out]; rfl
      go_roundw
      case rel => exact ⟨i + 1, oo2, co2, _, by go_num, by go_num, hl2, by omega, hB2, hO7, ht3, hE8⟩
      case measure => simp [intOf]; omega
    · have hil : i = n := by omega
      subst hil
      have hc := hO.lenCap
      rw [hli] at hc
      go_wp2_with fail
      go_ret
      exact ⟨hE, oo, l, co, rfl, hli, hc, hB, htr, hO⟩
end Go.Proofs.YthipmbmjodhiiaaGreat


namespace Go.Proofs.YthipmbmjodhiiaaGreat
open Go.RowKit Go.Rep Go.Lim
theorem dig_one (n : Nat) (h : n < 100) : Dig [n] := fun x hx => by
  have : x = n := by simpa using hx
  subst this; have := B_eq; omega
theorem NatIn.lit1 (X : Nat → Bool) (w : World) (n : Nat) (e : TypeId) (hX : HX X w) : Sl (NatIn .u32) 1 (mk X (w.alloc (.cells #[.int .u32 (n : Int)] e))) (some ⟨w.heap.size, 0, none⟩) [n] :=
  (OL.lit (NatIn.elem .u32) hX (Nat.le_refl _) [.int .u32 (n : Int)] [n] _ (by simp [cellsL, Value.cells]) rfl (fun i hi _ => by
    have : i = 0 := by simpa using hi
    subst this; rfl) (by simp)).sl (NatIn.elem _)
theorem qv_parts {h : Mem} {s : Bool} {ma da : Option Addr} {mc dc : Nat} {m d : List Nat} (hm : Sl (NatIn .u32) 1 h ma m) (hd : Sl (NatIn .u32) 1 h da d) (hmc : m.length ≤ mc) (hdc : d.length ≤ dc) (hmd : Dig m) (hdd : Dig d) (hml : m.length ≤ 3) (hdl : d.length ≤ 3) :
    ∃ q, QV h (.agg #[.bool s, .slice ma m.length mc, .slice da d.length dc]) q ∧ hq q ≤ 3 :=
  ⟨_, ⟨s, ma, mc, m, da, dc, d, rfl, hmc, hdc, hmd, hdd, by omega, by omega, hm, hd, rfl⟩, qval_hq s m d 3 hmd hdd hml hdl (by omega)⟩

set_option maxRecDepth 100000 in
set_option maxHeartbeats 1600000 in
theorem todd_any (X : Nat → Bool) (tb : Nat) (w : World) (ht : TapeR X tb w) (hX : HX X w) : Calls Tryz.prog 69 #[.pointer (some ⟨tb, 0, none⟩)] w (TQOut X tb QV 3 w) := by
  have htb := ht.lt
  have htX := ht.1
  obtain ⟨W, hW, hE, b0, hz⟩ := boxes1 w #[.bool false, .slice none 0 0, .slice none 0 0] 34
  have hXW : HX (hidB X w.heap.size 1) W := hX.boxes hz
  have htW : TapeR (hidB X w.heap.size 1) tb W := ht.box hE
  obtain ⟨b, hb⟩ : ∃ b, w.heap.size = b := ⟨_, rfl⟩
  have hbw : w.heap.size ≤ b := by omega
  have htb' : tb ≠ b := by omega
  have hbt : b ≠ tb := by omega
  rw [hb] at b0 hz hXW htW
  have hEb : ExtX (tbm tb) w W := ExtX.of hE
  clear hE
  go_enter Tryz.func69, Tryz.ntmps69
  go_wp2_with fail
  refine (trat_any (hidB X b 1) tb _ htW hXW).mono ?_
  rintro e w1 ⟨hE1, ht1, u1, q, rfl, hu1, hq1⟩
  obtain ⟨s, ma, mc, m, da, dc, d, rfl, hmc, hdc, hcq, hms, hds⟩ := hu1
  have hmd : Dig m := hcq.1.2.1
  have hdd : Dig d := hcq.2.1
  have hml : m.length ≤ 2 := by have := hq_num q; rw [hcq.1.len]; omega
  have hdl : d.length ≤ 2 := by have := hq_dn q; rw [hcq.2.len]; omega
  have b1 := b0.ext hE1 (tbm_ne hbt)
  have hX1 := hXW.ext hE1
  have hF1 := hEb.trans hE1
  have hz1 := hE1.size
  have bx := Bx.new w1 #[.bool false, .slice none 0 0, .slice none 0 0] 34
  obtain ⟨bo, hbo⟩ : ∃ bo, w1.heap.size = bo := ⟨_, rfl⟩
  rw [hbo] at bx
  have hbnew : ∀ j, j < w1.heap.size → ob (some ⟨bo, 0, none⟩) j = false := fun j hj => ob_other (by omega)
  have hbob : b < bo := by have := b1.lt; omega
  have htbo : tb < bo := by have := ht1.lt; omega
  clear b0 hXW htW hEb hcq hz
  go_wp2_with ((with_reducible show wpList _ _ _ (⟨_, .store 34 _ _, _, _, _, _⟩ :: _) _ _); refine st_storeBox stRat rfl rfl bx rfl rfl (one3 _ _ _ _ _ _ _) ?_; intro w2 r1 r2)
  have hE2 : Ext w1 w2 := ExtX.box ((ExtX.refl w1).alloc _) r2 (by omega)
  have ht2 : TapeR (un (hidB X b 1) (some ⟨bo, 0, none⟩)) tb w2 := ht1.old hE2 hbnew
  have hms2 := hms.old (oo := some ⟨bo, 0, none⟩) (NatIn.mono _) hE2 hbnew
  have hds2 := hds.old (oo := some ⟨bo, 0, none⟩) (NatIn.mono _) hE2 hbnew
  have hX2 : HX (un (hidB X b 1) (some ⟨bo, 0, none⟩)) w2 := fun k hk => by
    by_cases hx : hidB X b 1 k = true
    · exact hX1.ext hE2 k hx
    · have : bo = k := by simpa [un, hx, ob] using hk
      have := r1.lt
      omega
  have b2 := b1.ext0 hE2
  have hF2 := hF1.trans (ExtX.of hE2)
  clear bx hms hds ht1 hE1 hE2 hX1 hF1
  refine (next_any (un (hidB X b 1) (some ⟨bo, 0, none⟩)) tb 24 _ ht2 (by omega)).mono ?_
  rintro e w3 ⟨hE3, ht3, k, rfl, hk⟩
  have hsub := tbm_sub ht3.1
  have hms3 := hms2.mono (NatIn.mono _) (mk_mono hE3 hsub)
  have hds3 := hds2.mono (NatIn.mono _) (mk_mono hE3 hsub)
  have hX3 := hX2.ext hE3
  have b3 := b2.ext hE3 (tbm_ne hbt)
  have r3 := r1.ext hE3 (tbm_ne (by omega))
  have hF3 := hF2.trans hE3
  have hz3 := r3.lt
  clear hms2 hds2 hX2 b2 r1 r2 hF2 ht2 hE3 hbnew hz1
  have hdone : Hid (∀ (wz w7 : World) (s : Bool) (ma da : Option Addr) (mc dc : Nat) (m d : List Nat), ExtX (tbm tb) w wz → TapeR (un (hidB X b 1) (some ⟨bo, 0, none⟩)) tb wz → Sl (NatIn .u32) 1 (mk (un (hidB X b 1) (some ⟨bo, 0, none⟩)) wz) ma m → Sl (NatIn .u32) 1 (mk (un (hidB X b 1) (some ⟨bo, 0, none⟩)) wz) da d → m.length ≤ mc → d.length ≤ dc → Dig m → Dig d → m.length ≤ 3 → d.length ≤ 3 → ExtX (ob (some ⟨b, 0, none⟩)) wz w7 → TQOut X tb QV 3 w (.returned (.agg #[.bool s, .slice ma m.length mc, .slice da d.length dc])) w7) := hid fun wz w7 s ma da mc dc m d g1 g2 g3 g4 g5 g6 g7 g8 g9 g10 g11 => by
    have hle : Le (mk (un (hidB X b 1) (some ⟨bo, 0, none⟩)) wz) (mk X w7) := by
      refine mk_over g11 (fun j hj hk => ?_) (fun j _ hk => un_left (hidB_X hk))
      have : b = j := by simpa [ob] using hk
      subst this
      exact un_left (hidB_in (Nat.le_refl _) (by omega))
    obtain ⟨q, p1, p2⟩ := qv_parts (s := s) (g3.mono (NatIn.mono _) hle) (g4.mono (NatIn.mono _) hle) g5 g6 g7 g8 g9 g10
    have t1 : TapeR X tb w7 := by
      have hlt := g2.lt
      obtain ⟨_, lo, l, cap, at_, h1, h2, h3, h4⟩ := g2
      exact ⟨htX, lo, l, cap, at_, by rw [g11.block tb hlt (ob_other htb')]; exact h1, h2, h3, h4.mono (IntIn.mono _) hle⟩
    exact ⟨g1.tbox g11 hbw, t1, _, q, rfl, p1, p2⟩
  have hcase : k < 20 ∨ k = 20 ∨ k = 21 ∨ k = 22 ∨ k = 23 := by omega
  rcases hcase with h | rfl | rfl | rfl | rfl
  · have k0 := r3.cell 0 rfl
    have k1 := r3.cell 1 rfl
    have k2 := r3.cell 2 rfl
    have t20 : ((k : Int) == 20) = false := beqF (by omega)
    have t21 : ((k : Int) == 21) = false := beqF (by omega)
    have t22 : ((k : Int) == 22) = false := beqF (by omega)
    have t23 : ((k : Int) == 23) = false := beqF (by omega)
    go_wp2_with ((with_reducible show wpList _ _ _ (⟨_, .store 34 _ _, _, _, _, _⟩ :: _) _ _); refine st_storeBox stRat rfl rfl b3 rfl rfl (one3 _ _ _ _ _ _ _) ?_; intro w7 r1 r2)
    exact bodyPost_ret (results_box rfl rfl stRat r1 rfl) rfl (hdone.out w3 w7 _ _ _ _ _ _ _ hF3 ht3 hms3 hds3 hmc hdc hmd hdd (by omega) (by omega) r2)
  · have hEa : Ext w3 (w3.alloc (.cells #[.int .u32 1] 103)) := (ExtX.refl _).alloc _
    have r4 := r3.ext0 hEa
    have hdn := NatIn.lit1 (un (hidB X b 1) (some ⟨bo, 0, none⟩)) w3 1 103 hX3
    have k2 := r4.cell 2 rfl
    have f2 := r4.frozen 2
    obtain ⟨g1, g2⟩ := setCell_block r4 (.slice (some ⟨w3.heap.size, 0, none⟩) 1 1) (i := 2) (by simp)
    obtain ⟨w5, hw5⟩ : ∃ w5, (w3.alloc (.cells #[.int .u32 1] 103)).setCell ⟨bo, 2, none⟩ (.slice (some ⟨w3.heap.size, 0, none⟩) 1 1) = w5 := ⟨_, rfl⟩
    rw [hw5] at g1 g2
    have k0 : w5.cell? ⟨bo, 0, none⟩ = some (.bool s) := g1.cell 0 rfl
    have k1 : w5.cell? ⟨bo, 1, none⟩ = some (.slice ma m.length mc) := g1.cell 1 rfl
    have k5 : w5.cell? ⟨bo, 2, none⟩ = some (.slice (some ⟨w3.heap.size, 0, none⟩) 1 1) := g1.cell 2 rfl
    have hE5 : ExtX (ob (some ⟨bo, 0, none⟩)) w3 w5 := (ExtX.of hEa).trans g2
    have hle : Le (mk (un (hidB X b 1) (some ⟨bo, 0, none⟩)) w3) (mk (un (hidB X b 1) (some ⟨bo, 0, none⟩)) w5) := mk_mono hE5 fun _ hk => un_right hk
    have hle2 : Le (mk (un (hidB X b 1) (some ⟨bo, 0, none⟩)) (w3.alloc (.cells #[.int .u32 1] 103))) (mk (un (hidB X b 1) (some ⟨bo, 0, none⟩)) w5) := mk_mono g2 fun _ hk => un_right hk
    have b5 := (b3.ext0 hEa).ext g2 (ob_other (by omega))
    have hfin := hid (hdone.out w5 · s ma (some ⟨w3.heap.size, 0, none⟩) mc 1 m [1] (hF3.tbox hE5 (by omega)) (ht3.extY hE5 (fun _ hk => un_right hk) (ob_other (by omega))) (hms3.mono (NatIn.mono _) hle) (hdn.mono (NatIn.mono _) hle2) hmc (by simp) hmd (dig_one 1 (by omega)) (by omega) (by simp))
    go_wp2_with (first | ((with_reducible show wpList _ _ _ (⟨_, .store 30 _ _, _, _, _, _⟩ :: _) _ _); refine st_cell tyU32s rfl rfl rfl rfl k2 f2 ?_; rw [hw5]; clear k2 f2) | ((with_reducible show wpList _ _ _ (⟨_, .store 34 _ _, _, _, _, _⟩ :: _) _ _); refine st_storeBox stRat rfl rfl b5 rfl rfl (one3 _ _ _ _ _ _ _) ?_; intro w7 r1 r2))
    exact bodyPost_ret (results_box rfl rfl stRat r1 rfl) rfl (hfin.out w7 r2)
  · have k1 := r3.cell 1 rfl
    have h0 := hid (show Sl (NatIn .u32) 1 (mk (un (un (hidB X b 1) (some ⟨bo, 0, none⟩)) none) w3) ma m from by rw [un_none]; exact hms3)
    go_wp2_with (first
      | (at_builtin; refine st_appendl (l := ([] : List Nat)) slU32 rfl (NatIn.elem .u32) (Nat.le_refl w3.heap.size) hX3 m rfl rfl (OL.nil _ _ _ _ _ _) h0.out (by simp; omega) (by simp; omega) ?_; intro oo4 co4 w4 hO4 hE4 hor4; have hE34 : Ext w3 w4 := hE4.weaken (fun _ _ _ => rfl); have hX4 := hX3.ext hE34; have hb4 := hE34.size)
      | (at_builtin; refine st_append1 (l := [] ++ m) slU32 rfl (NatIn.elem .u32) hb4 hX4 rfl rfl hO4 (.int .u32 0) 0 rfl rfl (by simp; omega) (by simp; omega) ?_; intro oo5 co5 w5 hO5 hE5 hor5; have hE35 : Ext w3 w5 := hE34.own hO4 (Nat.le_refl _) hE5; have r5 := r3.ext0 hE35; have k2 := r5.cell 1 rfl; have f2 := r5.frozen 1; obtain ⟨g1, g2⟩ := setCell_block r5 (.slice oo5 (m.length + 1) co5) (i := 1) (by simp); obtain ⟨w6, hw6⟩ : ∃ w6, w5.setCell ⟨bo, 1, none⟩ (.slice oo5 (m.length + 1) co5) = w6 := ⟨_, rfl⟩; rw [hw6] at g1 g2; have q0 : w6.cell? ⟨bo, 0, none⟩ = some (.bool s) := g1.cell 0 rfl; have q1 : w6.cell? ⟨bo, 1, none⟩ = some (.slice oo5 (m.length + 1) co5) := g1.cell 1 rfl; have q2 : w6.cell? ⟨bo, 2, none⟩ = some (.slice da d.length dc) := g1.cell 2 rfl; have b6 := (b3.ext0 hE35).ext g2 (ob_other (by omega)))
      | ((with_reducible show wpList _ _ _ (⟨_, .store 34 _ _, _, _, _, _⟩ :: _) _ _); refine st_storeBox stRat rfl rfl b6 rfl rfl (one3 _ _ _ _ _ _ _) ?_; intro w7 r1 r2))
    have hE6 : ExtX (ob (some ⟨bo, 0, none⟩)) w3 w6 := (ExtX.of hE35).trans g2
    have hle : Le (mk (un (hidB X b 1) (some ⟨bo, 0, none⟩)) w3) (mk (un (hidB X b 1) (some ⟨bo, 0, none⟩)) w6) := mk_mono hE6 fun _ hk => un_right hk
    have hle2 : Le (mk (un (hidB X b 1) (some ⟨bo, 0, none⟩)) w5) (mk (un (hidB X b 1) (some ⟨bo, 0, none⟩)) w6) := mk_mono g2 fun _ hk => un_right hk
    have hc5 := hO5.lenCap
    have hlen : ([] ++ m ++ [0]).length = m.length + 1 := by simp
    rw [hlen] at hc5
    have hfin := hdone.out w6 w7 s oo5 da co5 dc ([] ++ m ++ [0]) d (hF3.tbox hE6 (by omega)) (ht3.extY hE6 (fun _ hk => un_right hk) (ob_other (by omega))) ((hO5.sl (NatIn.elem _)).mono (NatIn.mono _) hle2) (hds3.mono (NatIn.mono _) hle) (by rw [hlen]; exact hc5) hdc (fun x hx => by
      rcases List.mem_append.1 hx with h | h
      · exact hmd x (by simpa using h)
      · rw [List.mem_singleton.1 h]; exact B_pos) hdd (by simp; omega) (by omega) r2
    rw [hlen] at hfin
    exact bodyPost_ret (results_box rfl rfl stRat r1 rfl) rfl hfin
  · go_wp2_with ((with_reducible show wpList _ _ _ (⟨_, .store 34 _ _, _, _, _, _⟩ :: _) _ _); refine st_storeBox stRat rfl rfl b3 rfl rfl (one3 _ _ _ _ _ _ _) ?_; intro w7 r1 r2)
    exact bodyPost_ret (results_box rfl rfl stRat r1 rfl) rfl (hdone.out w3 w7 true none none 0 0 [] [] hF3 ht3 (Sl.nil _ _ _ _) (Sl.nil _ _ _ _) (by simp) (by simp) (fun x hx => by simp at hx) (fun x hx => by simp at hx) (by simp) (by simp) r2)
  · obtain ⟨w4, hw4⟩ : ∃ w4, w3.alloc (.cells #[.int .u32 2] 103) = w4 := ⟨_, rfl⟩
    have hE4 : Ext w3 w4 := by rw [← hw4]; exact (ExtX.refl _).alloc _
    have hz4 : w4.heap.size = w3.heap.size + 1 := by rw [← hw4]; simp
    have hX4 := hX3.ext hE4
    have hm2 := NatIn.lit1 (un (hidB X b 1) (some ⟨bo, 0, none⟩)) w3 2 103 hX3
    have hd4 := NatIn.lit1 (un (hidB X b 1) (some ⟨bo, 0, none⟩)) w4 4 103 hX4
    rw [show ((2 : Nat) : Int) = 2 from rfl, hw4] at hm2
    rw [show ((4 : Nat) : Int) = 4 from rfl] at hd4
    obtain ⟨w5, hw5⟩ : ∃ w5, w4.alloc (.cells #[.int .u32 4] 103) = w5 := ⟨_, rfl⟩
    have hE5 : Ext w4 w5 := by rw [← hw5]; exact (ExtX.refl _).alloc _
    rw [hw5, hz4] at hd4
    have hm5 := hm2.mono (NatIn.mono _) (mk_ext hE5)
    have hE35 : Ext w3 w5 := hE4.trans hE5
    have b5 := b3.ext0 hE35
    have hfin := hid (hdone.out w5 · false (some ⟨w3.heap.size, 0, none⟩) (some ⟨w3.heap.size + 1, 0, none⟩) 1 1 [2] [4] (hF3.trans (ExtX.of hE35)) (ht3.ext hE35) hm5 hd4 (by simp) (by simp) (dig_one 2 (by omega)) (dig_one 4 (by omega)) (by simp) (by simp))
    clear hE4 hX4 hm2 hd4 hE5 hm5 hE35
    go_wp2_with ((with_reducible show wpList _ _ _ (⟨_, .store 34 _ _, _, _, _, _⟩ :: _) _ _); refine st_storeBox stRat rfl rfl b5 rfl rfl (one3 _ _ _ _ _ _ _) ?_; intro w7 r1 r2)
    exact bodyPost_ret (results_box rfl rfl stRat r1 rfl) rfl (hfin.out w7 r2)

theorem toddrow_any (X : Nat → Bool) (tb n : Nat) (w : World) (ht : TapeR X tb w) (hX : HX X w) (hn : n ≤ 1000) :
    Calls Tryz.prog 35 #[.pointer (some ⟨tb, 0, none⟩), .int .i64 (n : Int)] w (TRowOut X tb QV 3 n w) := by
  have hsub := tbm_sub ht.1
  go_enter Tryz.func35, Tryz.ntmps35
  go_wp2_with fail
  go_loopw [5, 6] (fun s c wr => ∃ (i : Nat) (oo : Option Addr) (co : Nat) (l : List Rat), c = .int .i64 i ∧ s = .slice oo i co ∧ l.length = i ∧ i ≤ n ∧ BR 3 l ∧ OL QV 3 X w.heap.size 34 wr oo co l ∧ TapeR (un X oo) tb wr ∧ ExtX (tbm tb) w wr) (fun _ c _ => n - (intOf c).toNat)
  case atStart => exact ⟨0, none, 0, [], rfl, rfl, rfl, Nat.zero_le _, fun x hx => by simp at hx, OL.nil _ _ _ _ _ _, ht.none, ExtX.refl _⟩
  case round =>
    obtain ⟨i, oo, co, l, rfl, rfl, hli, hin, hB, hO, htr, hE⟩ := hrel
    have hXr : HX X wr := hX.ext hE
    by_cases hlt : i < n
    · have hXu : HX (un X oo) wr := hO.unX hXr
      have hln := hid hli
      clear hli
      go_wp2_with fail
      refine (todd_any (un X oo) tb _ htr hXu).mono ?_
      rintro e w2 ⟨hE2, ht2, u6, q, rfl, hu6, hq6⟩
      obtain ⟨s6, a6, n6, c6, d6, k6, e6, rfl⟩ := hu6.shape
      have hO2 := hO.ext QV.elem hE2 (fun k _ hk => hsub k hk) (fun _ _ h => h)
      have hX2 : HX X w2 := hXr.ext hE2
      have hE3 := hE.trans hE2
      have hbase := hE3.size
      clear hO htr hE hE2 hXr hXu
      go_wp2_with (at_builtin; refine st_append1n (l := l) slRat rfl QV.elem (by omega) hX2 i hln.out rfl rfl hO2 (.agg #[.bool s6, .slice a6 n6 c6, .slice d6 k6 e6]) q rfl hu6 (by omega) (by omega) ?_; intro oo2 co2 w7 hO7 hE7 hor)
      have hE8 := hE3.own hO2 (Nat.le_refl _) hE7
      have ht3 := ht2.unstep (hO2.not_ob ht.1) hE7 hor
      have hB2 : BR 3 (l ++ [q]) := fun x hx => by
        rcases List.mem_append.1 hx with h | h
        · exact hB x h
        · rw [List.mem_singleton.1 h]; exact hq6
      have hl2 : (l ++ [q]).length = i + 1 := by rw [List.length_append, hln.out]; rfl
      go_roundw
      case rel => exact ⟨i + 1, oo2, co2, _, by go_num, by go_num, hl2, by omega, hB2, hO7, ht3, hE8⟩
      case measure => simp [intOf]; omega
    · have hil : i = n := by omega
      subst hil
      have hc := hO.lenCap
      rw [hli] at hc
      go_wp2_with fail
      go_ret
      exact ⟨hE, oo, l, co, rfl, hli, hc, hB, htr, hO⟩
end Go.Proofs.YthipmbmjodhiiaaGreat


namespace Go.Rep
open Go.RowKit Go.Lim
theorem lit_rows (X : Nat → Bool) (w : World) (ao : Option Addr) (n cap : Nat) (l : List Rat) (e : TypeId) (hX : ∀ k, X k = true → k < w.heap.size) (h : RC (mk X w) (.slice ao n cap) l) :
    OL RC 1 X w.heap.size e (w.alloc (.cells #[.slice ao n cap] e)) (some ⟨w.heap.size, 0, none⟩) 1 [l] :=
  OL.lit RC.elem hX (Nat.le_refl _) [.slice ao n cap] [l] _ (by simp [cellsL, Value.cells]) rfl (fun i hi _ => by
    have : i = 0 := by simpa using hi
    subst this; exact h) (by simp)
/-- append([]T(nil), x...): a copy. -/
theorem st_copyNil {P : Program} {ops : Array Oper} {Q : Exit → Act → World → Prop} {rest : List Oper} {a : Act} {w : World} {α : Type} {R : Mem → Value → α → Prop} {sz : Nat} {X : Nat → Bool} {e : TypeId} {d : Option Tmp} {ty : TypeId} {ps : String} {af : Array Edge}
    {t by_ : Nat} {z : Value} {s x : Operand} {ax : Option Addr} {cs : Nat} (T : SliceT P t e sz by_ z) (hzs : z.cells.size = sz) (hR : Elem R sz) (base : Nat) (hbase : base ≤ w.heap.size) (hX : ∀ k, X k = true → k < w.heap.size)
    (xs : List α) (n : Nat) (hn : xs.length = n) (hs : a.eval s = .slice none 0 0) (hx : a.eval x = .slice ax n cs) (hxs : Sl R sz (mk X w) ax xs) (hroom : n * by_ ≤ 140737488355328) (hmax : n ≤ 9223372036854775807)
    (K : ∀ ao' cap' w', OL R sz X base e w' ao' cap' xs → n ≤ cap' → Ext w w' → wpList P ops Q rest (a.put d (.slice ao' n cap')) w') :
    wpList P ops Q (⟨d, .call { callee := .builtin .append, args := #[s, x], argTypes := #[t, t] }, ty, ps, af, none⟩ :: rest) a w := by
  subst hn
  have h0 : Sl R sz (mk (un X none) w) ax xs := by
    have : un X none = X := by funext k; simp [un, ob]
    rw [this]; exact hxs
  refine st_appendl (l := []) T hzs hR hbase hX xs hs hx (OL.nil _ _ _ _ _ _) h0 (by simpa using hroom) (by simpa using hmax) fun ao' cap' w' hO hE _ => ?_
  rw [List.nil_append] at hO ⊢
  exact K ao' cap' w' hO hO.lenCap (hE.weaken fun _ _ _ => rfl)
theorem Sl.rowsF {R : Mem → Value → Rat → Prop} {h : Mem} {ao : Option Addr} {m : List (List Rat)} (s : Sl (SlV R 3) 1 h ao m) : ∃ f : Nat → Option Addr × Nat, ∀ i (hi : i < m.length), h (adr ao i) = some (.slice (f i).1 m[i].length (f i).2) ∧ m[i].length ≤ (f i).2 ∧ Sl R 3 h (f i).1 m[i] := by
  have key : ∀ i, ∃ p : Option Addr × Nat, ∀ (hi : i < m.length), h (adr ao i) = some (.slice p.1 m[i].length p.2) ∧ m[i].length ≤ p.2 ∧ Sl R 3 h p.1 m[i] := fun i => by
    by_cases hi : i < m.length
    · obtain ⟨u, h1, a, c, rfl, h2, h3⟩ := s.cell SlV.one i hi
      exact ⟨(a, c), fun _ => ⟨h1, h2, h3⟩⟩
    · exact ⟨(none, 0), fun h => absurd h hi⟩
  exact ⟨fun i => (key i).choose, fun i hi => (key i).choose_spec hi⟩
theorem OL.rowsF {X : Nat → Bool} {base : Nat} {e : TypeId} {w : World} {ao : Option Addr} {cap : Nat} {m : List (List Rat)} (s : OL RC 1 X base e w ao cap m) : ∃ f : Nat → Option Addr × Nat, ∀ i (hi : i < m.length), w.cell? (adr ao i) = some (.slice (f i).1 m[i].length (f i).2) ∧ m[i].length ≤ (f i).2 ∧ Sl QC 3 (mk (un X ao) w) (f i).1 m[i] := by
  have key : ∀ i, ∃ p : Option Addr × Nat, ∀ (hi : i < m.length), w.cell? (adr ao i) = some (.slice p.1 m[i].length p.2) ∧ m[i].length ≤ p.2 ∧ Sl QC 3 (mk (un X ao) w) p.1 m[i] := fun i => by
    by_cases hi : i < m.length
    · obtain ⟨u, h1, _, h2⟩ := s.cell SlV.one i hi
      obtain ⟨a, c, rfl, h3, h4⟩ := h2
      exact ⟨(a, c), fun _ => ⟨h1, h3, h4⟩⟩
    · exact ⟨(none, 0), fun h => absurd h hi⟩
  exact ⟨fun i => (key i).choose, fun i hi => (key i).choose_spec hi⟩
theorem ob_adr {ao : Option Addr} {n k : Nat} (hd : Hd ao n) (hn : 0 < n) {b : Nat} (hb : ob ao b = false) : (adr ao k).block ≠ b := by
  obtain ⟨g, o, rfl⟩ := hd hn
  intro h
  have : g = b := h
  subst this
  simp [ob] at hb
end Go.Rep
namespace Go.Proofs.YthipmbmjodhiiaaGreat
open Go.RowKit Go.Rep Go.Lim
/-- The digits of points of k rows. -/
def pB (k : Nat) : Nat := 2 ^ (k + 1) - 2
theorem pB_step (k : Nat) : 2 * pB k + 2 = pB (k + 1) := by
  unfold pB
  have : 4 ≤ 2 ^ (k + 1) ∨ k = 0 := by
    rcases Nat.eq_zero_or_pos k with h | h
    · exact .inr h
    · exact .inl (by have := Nat.pow_le_pow_right (n := 2) (by decide) (show 2 ≤ k + 1 by omega); simpa using this)
  have h2 : 2 ≤ 2 ^ (k + 1) := by have := Nat.pow_le_pow_right (n := 2) (by decide) (show 1 ≤ k + 1 by omega); simpa using this
  rw [Nat.pow_succ 2 (k + 1)]
  omega
theorem pB_mono {j k : Nat} (h : j ≤ k) : pB j ≤ pB k := by
  unfold pB
  have := Nat.pow_le_pow_right (n := 2) (by decide) (show j + 1 ≤ k + 1 by omega)
  omega
theorem pB_8 : pB 8 = 510 := by decide
/-- Some points are drawn: 1 to n rows of d numbers. -/
def TPtsOut (X : Nat → Bool) (tb : Nat) (n d : Nat) (w : World) (e : Ending) (w' : World) : Prop := ExtX (tbm tb) w w' ∧ ∃ (ao : Option Addr) (l : List (List Rat)) (cap : Nat), e = .returned (.slice ao l.length cap) ∧ l.length ≤ cap ∧ 1 ≤ l.length ∧ l.length ≤ n ∧ (∀ r ∈ l, r.length = d) ∧ BM 510 l ∧ TapeR (un X ao) tb w' ∧ OL RC 1 X w.heap.size 27 w' ao cap l
theorem hq_turn {x y : Rat} {B : Nat} (hx : hq x ≤ B) (hy : hq y ≤ B) : hq (2 * x - y) ≤ 2 * B + 2 := by
  have h1 := hq_sub (2 * x) y
  have h2 := hq_mul 2 x
  have h3 : hq (2 : Rat) ≤ 1 := by
    have := hq_int 2 1 (lgI (by omega) (by omega)) (by omega)
    exact this
  omega
/-- The list of turned differences, made so far. -/
def turnN (p a b : List Rat) (j : Nat) : List Rat := (List.range p.length).map fun i => if i < j then 2 * a.getD i 0 - b.getD i 0 else p.getD i 0
theorem turnN_len (p a b : List Rat) (j : Nat) : (turnN p a b j).length = p.length := by simp [turnN]
theorem turnN_zero (p a b : List Rat) : turnN p a b 0 = p := by
  refine List.ext_getElem (by simp [turnN]) fun i h1 h2 => ?_
  simp [turnN, List.getD_eq_getElem?_getD, h2]
theorem turnN_set (p a b : List Rat) (j : Nat) (hj : j < p.length) : (turnN p a b j).set j (2 * a.getD j 0 - b.getD j 0) = turnN p a b (j + 1) := by
  refine List.ext_getElem (by simp [turnN]) fun i h1 h2 => ?_
  rw [List.getElem_set]
  simp only [turnN, List.getElem_map, List.getElem_range]
  split
  · subst_vars; simp
  · by_cases h : i < j
    · simp [h, show i < j + 1 by omega]
    · simp [h, show ¬ i < j + 1 by omega]
theorem turnN_br {p a b : List Rat} {B : Nat} (hp : BR B p) (ha : BR B a) (hb : BR B b) (hB : 1 ≤ B) (j : Nat) : BR (2 * B + 2) (turnN p a b j) := by
  have g : ∀ {x : List Rat}, BR B x → ∀ q, hq (x.getD q 0) ≤ B := fun {x} hx q => by
    rw [List.getD_eq_getElem?_getD]
    by_cases h : q < x.length
    · rw [List.getElem?_eq_getElem h]; exact hx _ (List.getElem_mem _)
    · rw [List.getElem?_eq_none (by omega)]; simp [hq_zero, hB]
  intro q hq'
  unfold turnN at hq'
  obtain ⟨i, _, rfl⟩ := List.mem_map.1 hq'
  split
  · exact hq_turn (g ha i) (g hb i)
  · have := g hp i; omega

set_option maxRecDepth 100000 in
set_option maxHeartbeats 3200000 in
theorem tpoints_any (X : Nat → Bool) (tb n d : Nat) (w : World) (ht : TapeR X tb w) (hX : HX X w) (hn1 : 1 ≤ n) (hn : n ≤ 8) (hd : d ≤ 1000) :
    Calls Tryz.prog 15 #[.pointer (some ⟨tb, 0, none⟩), .int .i64 (n : Int), .int .i64 (d : Int)] w (TPtsOut X tb n d w) := by
  have hsub := tbm_sub ht.1
  have htX := ht.1
  go_enter Tryz.func15, Tryz.ntmps15
  go_wp2_with fail
  refine (trow_any X tb d w ht hX hd).mono ?_
  rintro e w1 ⟨hE1, ao1, l1, cap1, rfl, hl1, hc1, hB1, ht1, hO1⟩
  have hX1 := hX.ext hE1
  have hRC1 : RC (mk X w1) (.slice ao1 d cap1) l1 := ⟨ao1, cap1, by rw [hl1], by omega, hO1.sl QC.elem⟩
  have hL := (lit_rows X w1 ao1 d cap1 l1 27 hX1 hRC1).base_le (b' := w.heap.size) hE1.size
  have ht1X := (ht1.unX htX).old (oo := some ⟨w1.heap.size, 0, none⟩) ((ExtX.refl (Y := noY) w1).alloc (.cells #[.slice ao1 d cap1] 27)) (ob_new w1)
  have hF1 : ExtX (tbm tb) w (w1.alloc (.cells #[.slice ao1 d cap1] 27)) := hE1.alloc _
  obtain ⟨w2, hw2⟩ : ∃ w2, w1.alloc (.cells #[.slice ao1 d cap1] 27) = w2 := ⟨_, rfl⟩
  obtain ⟨g1, hg1⟩ : ∃ g1 : Option Addr, some ⟨w1.heap.size, 0, none⟩ = g1 := ⟨_, rfl⟩
  rw [hg1] at hL ht1X
  rw [hw2] at hL ht1X hF1
  go_wp2_with fail
  have hX2 : HX X w2 := hX.ext hF1
  refine (next_any (un X g1) tb n _ ht1X (by omega)).mono ?_
  rintro e w3 ⟨hE3, ht3, m3, rfl, hm3⟩
  have hO3 := hL.ext RC.elem hE3 (fun k _ hk => hsub k hk) (fun _ _ h => h)
  have hF3 := hF1.trans hE3
  clear hL ht1X hF1 hE3 hX2 hX1 hRC1 hO1 ht1 hE1 hw2 hg1
  go_wp2_with fail
  go_loopw [7, 8] (fun s c wr => ∃ (i k : Nat) (oo : Option Addr) (co : Nat) (l : List (List Rat)), c = .int .i64 i ∧ s = .slice oo k co ∧ l.length = k ∧ 1 ≤ k ∧ i + k ≤ n ∧ (∀ r ∈ l, r.length = d) ∧ BM (pB k) l ∧ OL RC 1 X w.heap.size 27 wr oo co l ∧ TapeR (un X oo) tb wr ∧ ExtX (tbm tb) w wr) (fun _ c _ => (intOf c).toNat)
  case atStart => exact ⟨m3, 1, _, _, [l1], rfl, rfl, rfl, Nat.le_refl _, by omega, fun r hr => by rw [List.mem_singleton.1 hr]; exact hl1, fun r hr => by rw [List.mem_singleton.1 hr]; exact hB1, hO3, ht3, hF3⟩
  case round =>
    clear hO3 ht3 hF3
    obtain ⟨i, k, oo, co, l, rfl, rfl, hlk, hk1, hik, hrl, hBM, hO, htr, hE⟩ := hrel
    have hXr : HX X wr := hX.ext hE
    by_cases hlt : 0 < i
    · have hXu : HX (un X oo) wr := hO.unX hXr
      have hlk' := hid hlk
      have hrl' := hid hrl
      have hO0 := hid hO
      have hE0 := hid hE
      have hXu0 := hXu
      go_wp2_with fail
      refine (trow_any (un X oo) tb d wr htr hXu hd).mono ?_
      rintro e w2 ⟨hE2, po, p, pc, rfl, hpl, hpc, hpB, ht2, hP⟩
      go_wp2_with fail
      refine (next_any (un (un X oo) po) tb 6 _ ht2 (by omega)).mono ?_
      rintro e w3 ⟨hE3, ht3, m3, rfl, hm3⟩
      have hP3 := hP.ext QC.elem hE3 (fun k _ hk => un_left (hsub k hk)) (fun _ _ h => h)
      have hO3 := (hO.ext RC.elem hE2 (fun k _ hk => hsub k hk) (fun _ _ h => h)).ext RC.elem hE3 (fun k _ hk => hsub k hk) (fun _ _ h => h)
      have hF3 := (hE.trans hE2).trans hE3
      have hE23 := hE2.trans hE3
      have hXu3 := (hXu.ext hE2).ext hE3
      have htu3 : TapeR (un X oo) tb w3 := ht3.unX (un_left htX)
      have hpB2 : 2 ≤ pB (k + 1) := by have := pB_mono (show 1 ≤ k + 1 by omega); have : pB 1 = 2 := rfl; omega
      have hBM' := hid hBM
      obtain ⟨i, rfl⟩ : ∃ j, i = j + 1 := ⟨i - 1, by omega⟩
      clear hP hO ht2 htr hE2 hE hXu hlk hrl hBM
      have hcase : m3 < 4 ∨ m3 = 4 ∨ m3 = 5 := by omega
      rcases hcase with h | rfl | rfl
      · obtain ⟨p2, hp2⟩ : ∃ p2, p = p2 := ⟨_, rfl⟩
        subst hp2
        have hp2l := hid hpl
        have hp2B : Hid (BR (pB (k + 1)) p) := hid fun q hq => Nat.le_trans (hpB q hq) hpB2
        have hRC : RC (mk (un X oo) w3) (.slice po d pc) p := ⟨po, pc, by rw [hpl], by omega, hP3.sl QC.elem⟩
        have hOK := hO3
        have htK := htu3
        have hFK := hF3
        have hXK := hX.ext hF3
        have t4 : ((m3 : Int) == 4) = false := beqF (by omega)
        have t5 : ((m3 : Int) == 5) = false := beqF (by omega)
        clear hpl hP3
        have hb7 := hFK.size
        go_wp2_with (at_builtin; refine st_append1n (l := l) slRats rfl RC.elem hb7 hXK k hlk'.out rfl rfl hOK (.slice po d pc) p rfl hRC (by omega) (by omega) ?_; intro oo2 co2 w7 hO7 hE7 hor)
        have hE8 := hFK.own hOK (Nat.le_refl _) hE7
        have ht8 := htK.unstep (hOK.not_ob htX) hE7 hor
        have hl8 : (l ++ [p]).length = k + 1 := by rw [List.length_append, hlk'.out]; rfl
        have hr8 : ∀ r ∈ l ++ [p], r.length = d := fun r hr => by
          rcases List.mem_append.1 hr with h | h
          · exact hrl'.out r h
          · rw [List.mem_singleton.1 h]; exact hp2l.out
        have hB8 : BM (pB (k + 1)) (l ++ [p]) := fun r hr => by
          rcases List.mem_append.1 hr with h | h
          · exact fun q hq => Nat.le_trans (hBM'.out r h q hq) (pB_mono (by omega))
          · rw [List.mem_singleton.1 h]; exact hp2B.out
        go_roundw
        case rel => exact ⟨i, k + 1, oo2, co2, _, by go_num, by go_num, hl8, by omega, by omega, hr8, hB8, hO7, ht8, hE8⟩
        case measure => simp [intOf]
      · go_wp2_with fail
        refine (next_any (un X oo) tb k _ htu3 (by omega)).mono ?_
        rintro e w4 ⟨hE4, ht4, m4, rfl, hm4⟩
        have hm4' : m4 < l.length := by rw [hlk'.out]; omega
        have hO4 := hO3.ext RC.elem hE4 (fun k _ hk => hsub k hk) (fun _ _ h => h)
        have hF4 := hF3.trans hE4
        have hXu4 := hXu3.ext hE4
        obtain ⟨u4, hc4, _, hr4⟩ := hO4.cell SlV.one m4 hm4'
        obtain ⟨a4, c4, rfl, hcl4, hs4⟩ := hr4
        have hhd := hO4.hd
        rw [hlk'.out] at hhd
        have hrd := hrl'.out l[m4] (List.getElem_mem _)
        have hrB := hBM'.out l[m4] (List.getElem_mem _)
        obtain ⟨r, hr⟩ : ∃ r, l[m4] = r := ⟨_, rfl⟩
        rw [hr] at hc4 hcl4 hs4 hrd hrB
        have hrd' := hid hrd
        rw [hrd] at hc4 hcl4
        have hm4k : m4 < k := by omega
        have hrd' := hid hrd
        clear hr hrd hm4' hO3 htu3 hF3 ht3 hE4 hP3 hXu3
        have hp2l := hrd'
        have hp2B : Hid (BR (pB (k + 1)) r) := hid fun q hq => Nat.le_trans (hrB q hq) (pB_mono (by omega))
        go_wp2_with (first
          | (with_reducible refine up_ix1 slRats (by omega) (by assumption) ?_)
          | (at_builtin; refine st_copyNil slRat rfl QC.elem w4.heap.size (Nat.le_refl _) hXu4 r d hrd'.out rfl rfl hs4 (by omega) (by omega) ?_; intro po5 pc5 w5 hO5 hc5 hE5; have hOK := hO4.ext0 RC.elem hE5; have htK : TapeR (un X oo) tb w5 := ht4.ext hE5; have hFK := hF4.trans (ExtX.of hE5); have hXK := hX.ext hFK; have hRC : RC (mk (un X oo) w5) (.slice po5 d pc5) r := ⟨po5, pc5, by rw [hrd'.out], by rw [hrd'.out]; exact hc5, hO5.sl QC.elem⟩; have hb7 := hFK.size)
          | (at_builtin; refine st_append1n (l := l) slRats rfl RC.elem hb7 hXK k hlk'.out rfl rfl hOK (.slice po5 d pc5) r rfl hRC (by omega) (by omega) ?_; intro oo2 co2 w7 hO7 hE7 hor))
        have hE8 := hFK.own hOK (Nat.le_refl _) hE7
        have ht8 := htK.unstep (hOK.not_ob htX) hE7 hor
        have hl8 : (l ++ [r]).length = k + 1 := by rw [List.length_append, hlk'.out]; rfl
        have hr8 : ∀ x ∈ l ++ [r], x.length = d := fun x hr => by
          rcases List.mem_append.1 hr with h | h
          · exact hrl'.out x h
          · rw [List.mem_singleton.1 h]; exact hp2l.out
        have hB8 : BM (pB (k + 1)) (l ++ [r]) := fun x hr => by
          rcases List.mem_append.1 hr with h | h
          · exact fun q hq => Nat.le_trans (hBM'.out x h q hq) (pB_mono (by omega))
          · rw [List.mem_singleton.1 h]; exact hp2B.out
        go_roundw
        case rel => exact ⟨i, k + 1, oo2, co2, _, by go_num, by go_num, hl8, by omega, by omega, hr8, hB8, hO7, ht8, hE8⟩
        case measure => simp [intOf]
      · obtain ⟨f, hf⟩ := hO0.out.rowsF
        have hhd := hO3.hd
        rw [hlk'.out] at hhd
        have hobt : ob oo tb = false := hO3.not_ob htX
        have hpt : ob po tb = false := hP3.not_ob (un_left htX)
        have hS : Hid (∀ w', ExtX (tbm tb) w3.drew w' → ∀ m, m < k → w'.cell? (adr oo m) = some (.slice (f m).1 d (f m).2)) := hid fun w' h m hm => by
          have hml : m < l.length := by rw [hlk'.out]; exact hm
          have h1 := (hf m hml).1
          rw [hrl'.out _ (List.getElem_mem hml)] at h1
          exact (hE23.drew.trans h).cellY h1 (tbm_ne (ob_adr hhd (by omega) hobt))
        have hf' := hid hf
        have hZ3 : HX (un (un X oo) po) w3 := hP3.unX hXu3
        have htd : TapeR (un (un X oo) po) tb w3.drew := ht3.ext (ExtX.refl _).drew
        have i1 : ∀ m, m < k → ∀ W, (Instr.indexAt 25 (.slice oo k co) (.int .i64 (m : Int))).run Tryz.prog W = .ok (.pointer (some (adr oo m))) W := fun m hm => run_ix1 slRats oo k co .i64 m hhd hm rfl
        have i1' := hid i1
        have hkb : (k : Int) ≤ 1099511627776 := by omega
        clear hf i1
        go_wp2_with fail
        go_region_held3 (fun w' => ∀ m, m < k → w'.cell? (adr oo m) = some (.slice (f m).1 d (f m).2))
          (first | exact hS.out _ (ExtX.refl _) | exact hS.out _ t1 | exact hS.out _ (t1.trans t2) | go_keep)
          (first | (go_at_call 31; (with_reducible refine (next_any (un (un X oo) po) tb k w3.drew htd hkb).mono ?_); rintro ee w4 ⟨t1, ht4, m4, rfl, hm4⟩; have hm4k : m4 < k := (by omega); have i4 := i1'.out m4 hm4k) | (go_at_call 31; (with_reducible refine (next_any (un (un X oo) po) tb k w4 ht4 hkb).mono ?_); rintro ee w5 ⟨t2, ht5, m5, rfl, hm5⟩; have hm5k : m5 < k := (by omega); have i5 := i1'.out m5 hm5k) | fail)
        have hE35 : ExtX (tbm tb) w3 w5 := ((ExtX.refl _).drew).trans (t1.trans t2)
        have hP5 := hP3.ext QC.elem hE35 (fun k _ hk => un_left (hsub k hk)) (fun _ _ h => h)
        have hE5 : ExtX (un (tbm tb) po) wr w5 := (hE23.trans hE35).weaken fun _ _ h => (un_false h).1
        have hla : m4 < l.length := by rw [hlk'.out]; exact hm4k
        have hlb : m5 < l.length := by rw [hlk'.out]; exact hm5k
        obtain ⟨_, hca, hsa⟩ := hf'.out m4 hla
        obtain ⟨_, hcb, hsb⟩ := hf'.out m5 hlb
        have hda := hid (hrl'.out _ (List.getElem_mem hla))
        have hdb := hid (hrl'.out _ (List.getElem_mem hlb))
        have hBa := hid (hBM'.out _ (List.getElem_mem hla))
        have hBb := hid (hBM'.out _ (List.getElem_mem hlb))
        rw [hda.out] at hca
        rw [hdb.out] at hcb
        obtain ⟨ra, hra⟩ : ∃ ra, l[m4] = ra := ⟨_, rfl⟩
        obtain ⟨rb, hrb⟩ : ∃ rb, l[m5] = rb := ⟨_, rfl⟩
        rw [hra] at hsa hda hBa
        rw [hrb] at hsb hdb hBb
        obtain ⟨⟨aa, ac⟩, hfa⟩ : ∃ q, f m4 = q := ⟨_, rfl⟩
        obtain ⟨⟨ba, bc⟩, hfb⟩ : ∃ q, f m5 = q := ⟨_, rfl⟩
        rw [hfa] at hca hsa
        rw [hfb] at hcb hsb
        dsimp only at hca hcb hsa hsb
        have hfa' := hid hfa
        have hfb' := hid hfb
        have hoo := hid (fun j (hj : j < wr.heap.size) => show ob po j = false from hP5.ob_lt hj)
        have hleZ : Hid (∀ wx, ExtX (un (tbm tb) po) wr wx → Le (mk (un X oo) wr) (mk (un (un X oo) po) wx)) := hid fun wx h => mk_over h (fun j hj hk => by
            by_cases hx : tbm tb j = true
            · exact un_left (hsub j hx)
            · simp [un, hx, hoo.out j hj] at hk) (fun j hj hk => by
            by_cases hx : un X oo j = true
            · exact hx
            · simp [un, hoo.out j hj] at hk hx; rcases hk with hk | hk <;> simp [hk] at hx)
        have hlp : Hid (p.length = d) := hid hpl
        have hha : Hd aa d := by have := hsa.hd; rw [hda.out] at this; exact this
        have hhb : Hd ba d := by have := hsb.hd; rw [hdb.out] at this; exact this
        have hhp : Hd po d := by have := hP5.hd; rw [hpl] at this; exact this
        have hkB : pB k ≤ 510 := by have := pB_mono (show k ≤ 8 by omega); rw [pB_8] at this; exact this
        rw [← turnN_zero p ra rb] at hP5
        clear hra hrb hfa hfb hS hf' htd ht3 ht4 i4 i5 hm4 hm5 t1 t2 hE35 hP3 hO3 htu3 hF3 hE23 hE3 hhd
        go_wp2_with fail
        rw [hfa'.out, hfb'.out]
        go_wp2_with fail
        obtain ⟨wo, hwo⟩ : ∃ wo, wo = wr := ⟨_, rfl⟩
        subst hwo
        go_loopw [57] (fun cc wx => ∃ j : Nat, cc = .int .i64 j ∧ j ≤ d ∧ OL QC 3 (un X oo) wo.heap.size 34 wx po pc (turnN p ra rb j) ∧ TapeR (un (un X oo) po) tb wx ∧ ExtX (un (tbm tb) po) wo wx) (fun cc _ => d - (intOf cc).toNat)
        case atStart => exact ⟨0, rfl, Nat.zero_le _, hP5, ht5, hE5⟩
        case round =>
          clear hP5 ht5 hE5
          obtain ⟨j, rfl, hj, hPx, htx, hEx⟩ := hrel
          have hXx : HX (un X oo) wr := hXu0.ext hEx
          have hZx : HX (un (un X oo) po) wr := hPx.unX hXx
          by_cases hjd : j < d
          · have hja : j < ra.length := by rw [hda.out]; exact hjd
            have hjb : j < rb.length := by rw [hdb.out]; exact hjd
            have hjp : j < (turnN p ra rb j).length := by rw [turnN_len, hlp.out]; exact hjd
            have hle := hleZ.out _ hEx
            obtain ⟨g1, o1, s1, a1, n1, c1, d1, k1, e1, hg1, hX1, hc1, hq1⟩ := (hsa.mono QC.mono hle).rat QC.shaped j hja
            obtain ⟨g2, o2, s2, a2, n2, c2, d2, k2, e2, hg2, hX2, hc2, hq2⟩ := (hsb.mono QC.mono hle).rat QC.shaped j hjb
            have hob1 := (un_false hX1).2
            have hob2 := (un_false hX2).2
            have gl : Hid (ra.getD j 0 = ra[j]) := hid (by simp [List.getD_eq_getElem?_getD, hja])
            have gm : Hid (rb.getD j 0 = rb[j]) := hid (by simp [List.getD_eq_getElem?_getD, hjb])
            have hst : Hid ((turnN p ra rb j).set j (2 * ra[j] - rb[j]) = turnN p ra rb (j + 1)) := hid (by rw [← gl.out, ← gm.out]; exact turnN_set p ra rb j (by rw [hlp.out]; exact hjd))
            have hBx := hid (hBa.out _ (List.getElem_mem hja))
            have hBy := hid (hBb.out _ (List.getElem_mem hjb))
            obtain ⟨x, hx⟩ : ∃ x, ra[j] = x := ⟨_, rfl⟩
            obtain ⟨y, hy⟩ : ∃ y, rb[j] = y := ⟨_, rfl⟩
            rw [hx] at hst hq1 hBx
            rw [hy] at hst hq2 hBy
            have hv2 : Hid (((2 : Int) : Rat) = 2) := hid rfl
            have h2q : Hid (hq (2 : Rat) ≤ 68719476736) := hid (by have := hq_int 2 1 (lgI (by omega) (by omega)) (by omega); rw [hv2.out] at this; omega)
            have hmq : Hid (hq (2 * x) ≤ 68719476736) := hid (by
              have h1 := hq_mul 2 x
              have h3 := hq_int 2 1 (lgI (by omega) (by omega)) (by omega)
              rw [hv2.out] at h3
              have := hBx.out
              omega)
            have i1 : ∀ W, (Instr.indexAt 27 (.slice aa d ac) (.int .i64 (j : Int))).run Tryz.prog W = .ok (.pointer (some ⟨g1, o1, none⟩)) W := by rw [← hg1]; exact run_indexAt_adr slRat aa d ac .i64 j hha (by omega)
            have i2 : ∀ W, (Instr.indexAt 27 (.slice ba d bc) (.int .i64 (j : Int))).run Tryz.prog W = .ok (.pointer (some ⟨g2, o2, none⟩)) W := by rw [← hg2]; exact run_indexAt_adr slRat ba d bc .i64 j hhb (by omega)
            obtain ⟨g, o, hg⟩ : ∃ g o, adr po (j * 3) = ⟨g, o, none⟩ := ⟨_, _, rfl⟩
            have hg' := hid hg
            have i3 : ∀ W, (Instr.indexAt 27 (.slice po d pc) (.int .i64 (j : Int))).run Tryz.prog W = .ok (.pointer (some ⟨g, o, none⟩)) W := by rw [← hg]; exact run_indexAt_adr slRat po d pc .i64 j hhp (by omega)
            have hEd : Ext wr wr.drew := (ExtX.refl wr).drew
            have hS : Hid (∀ Y W', ExtX Y wr.drew W' → Y g1 = false → Y g2 = false → W'.cell? ⟨g1, o1, none⟩ = some (.bool s1) ∧ W'.cell? ⟨g1, o1 + 1, none⟩ = some (.slice a1 n1 c1) ∧ W'.cell? ⟨g1, o1 + 2, none⟩ = some (.slice d1 k1 e1) ∧ W'.cell? ⟨g2, o2, none⟩ = some (.bool s2) ∧ W'.cell? ⟨g2, o2 + 1, none⟩ = some (.slice a2 n2 c2) ∧ W'.cell? ⟨g2, o2 + 2, none⟩ = some (.slice d2 k2 e2)) := hid fun Y W' h y1 y2 => by
              have p1 := hc1.out Y W' ((ExtX.of hEd).trans h) y1
              have p2 := hc2.out Y W' ((ExtX.of hEd).trans h) y2
              exact ⟨p1.1, p1.2.1, p1.2.2, p2.1, p2.2.1, p2.2.2⟩
            obtain ⟨k00, k01, k02, k10, k11, k12⟩ := hS.out noY wr.drew (ExtX.refl _) rfl rfl
            have hx5 : QV (mk (un (un X oo) po) wr.drew) (.agg #[.bool s1, .slice a1 n1 c1, .slice d1 k1 e1]) x := hq1.qv (by have := hBx.out; omega)
            have hy5 : QV (mk (un (un X oo) po) wr.drew) (.agg #[.bool s2, .slice a2 n2 c2, .slice d2 k2 e2]) y := hq2.qv (by have := hBy.out; omega)
            have hZd : HX (un (un X oo) po) wr.drew := hZx
            have hOd := hPx.ext0 QC.elem hEd
            have htd := htx.ext hEd
            have hEwd : ExtX (un (tbm tb) po) wo wr.drew := hEx.trans (ExtX.of hEd)
            clear hx hy hg hg1 hg2 hc1 hc2 hq1 hq2 hca hcb hPx htx hEx hle gl gm
            go_wp2_with fail
            go_region_held3 (fun w' => w'.cell? ⟨g1, o1, none⟩ = some (.bool s1) ∧ w'.cell? ⟨g1, o1 + 1, none⟩ = some (.slice a1 n1 c1) ∧ w'.cell? ⟨g1, o1 + 2, none⟩ = some (.slice d1 k1 e1) ∧ w'.cell? ⟨g2, o2, none⟩ = some (.bool s2) ∧ w'.cell? ⟨g2, o2 + 1, none⟩ = some (.slice a2 n2 c2) ∧ w'.cell? ⟨g2, o2 + 2, none⟩ = some (.slice d2 k2 e2))
              (first | exact hS.out (ob po) _ ((ExtX.of t123).trans hset.2) hob1 hob2 | exact hS.out noY _ t123 rfl rfl | exact hS.out noY _ t12 rfl rfl | exact hS.out noY _ t1 rfl rfl | go_keep)
              (first
                | (go_at_call 45; (with_reducible refine (rqfrom (un (un X oo) po) wr.drew 2 hZd (by decide) (by decide)).mono ?_); rintro ee w6 ⟨t1, u6, rfl, hu6⟩; rw [hv2.out] at hu6; obtain ⟨s6, a6, n6, c6, d6, k6, e6, rfl⟩ := hu6.shape; have hZ6 := hZd.ext t1; have hu6v := hu6.qv h2q.out; have hx6 := mkx QV.mono hx5 t1)
                | (go_at_call 19; (with_reducible refine (rqmul (un (un X oo) po) w6 _ _ 2 x hZ6 hu6v hx6).mono ?_); rintro ee w7 ⟨t2, u7, rfl, hu7⟩; obtain ⟨s7, a7, n7, c7, d7, k7, e7, rfl⟩ := hu7.shape; have t12 := t1.trans t2; have hZ7 := hZd.ext t12; have hu7v := hu7.qv hmq.out; have hy7 := mkx QV.mono hy5 t12)
                | (go_at_call 18; (with_reducible refine (rqsub (un (un X oo) po) w7 _ _ (2 * x) y hZ7 hu7v hy7).mono ?_); rintro ee w9 ⟨t3, u9, rfl, hu9⟩; obtain ⟨s9, a9, n9, c9, d9, k9, e9, rfl⟩ := hu9.shape; have t123 := t12.trans t3; have hO9 := hOd.ext0 QC.elem t123; obtain ⟨_, v0, v1, v2, _, ⟨q0, f0⟩, ⟨q1, f1⟩, ⟨q2, f2⟩, _⟩ := hO9.cell3 j hjp hg'.out; have hset := hO9.set3 tyRat QC.elem j hjp hg'.out (v0 := .bool s9) (v1 := .slice a9 n9 c9) (v2 := .slice d9 k9 e9) (x := 2 * x - y) hu9)
                | fail)
            obtain ⟨r1, r2⟩ := hset
            rw [hst.out] at r1
            have hE9 : ExtX (un (tbm tb) po) wo _ := (hEwd.trans (ExtX.of t123)).trans (r2.weaken fun _ _ h => (un_false h).2)
            have ht9 := (htd.ext t123).extY r2 (fun _ hk => un_right hk) hpt
            clear k00 k01 k02 k10 k11 k12 i1 i2 i3 q0 q1 q2 f0 f1 f2 r2
            go_wp2_with fail
            go_roundw
            case rel => exact ⟨j + 1, by go_num, by omega, r1, ht9, hE9⟩
            case measure => simp [intOf]; omega
          · have hjl : j = d := by omega
            obtain ⟨r, hr⟩ : ∃ r, turnN p ra rb j = r := ⟨_, rfl⟩
            have hrd : Hid (r.length = d) := hid (by rw [← hr, turnN_len]; exact hlp.out)
            have hrB : Hid (BR (pB (k + 1)) r) := hid (by
              rw [← hr, ← pB_step]
              have h1 : 1 ≤ pB k := by have := pB_mono hk1; have : pB 1 = 2 := rfl; omega
              have h2 : 2 ≤ pB k := by have := pB_mono hk1; have : pB 1 = 2 := rfl; omega
              exact turnN_br (fun q hq => Nat.le_trans (hpB q hq) h2) hBa.out hBb.out h1 j)
            rw [hr] at hPx
            have hOK : OL RC 1 X w.heap.size 27 wr oo co l := hO0.out.ext RC.elem hEx (fun q hq hk => by
              by_cases hx : tbm tb q = true
              · exact hsub q hx
              · simp [un, hx, hoo.out q hq] at hk) (fun _ _ h => h)
            have hFK : ExtX (tbm tb) w wr := hE0.out.then_ hEx (fun q hq hy => by
              have := hE0.out.size
              simp [un, hy, hoo.out q (by omega)])
            have hXK := hX.ext hFK
            have htK : TapeR (un X oo) tb wr := htx.unX (un_left htX)
            have hpc2 := hPx.lenCap
            rw [hrd.out] at hpc2
            have hRC : RC (mk (un X oo) wr) (.slice po d pc) r := ⟨po, pc, by rw [hrd.out], by rw [hrd.out]; exact hpc2, hPx.sl QC.elem⟩
            have hb7 := hFK.size
            have hlk2 := hlk'.out
            clear hr hPx hca hcb hEx htx hlk2
            go_wp2_with (at_builtin; refine st_append1n (l := l) slRats rfl RC.elem hb7 hXK k hlk'.out rfl rfl hOK (.slice po d pc) r rfl hRC (by omega) (by omega) ?_; intro oo2 co2 w7 hO7 hE7 hor)
            have hE8 := hFK.own hOK (Nat.le_refl _) hE7
            have ht8 := htK.unstep (hOK.not_ob htX) hE7 hor
            have hl8 : (l ++ [r]).length = k + 1 := by rw [List.length_append, hlk'.out]; rfl
            have hr8 : ∀ x ∈ l ++ [r], x.length = d := fun x hr => by
              rcases List.mem_append.1 hr with h | h
              · exact hrl'.out x h
              · rw [List.mem_singleton.1 h]; exact hrd.out
            have hB8 : BM (pB (k + 1)) (l ++ [r]) := fun x hr => by
              rcases List.mem_append.1 hr with h | h
              · exact fun q hq => Nat.le_trans (hBM'.out x h q hq) (pB_mono (by omega))
              · rw [List.mem_singleton.1 h]; exact hrB.out
            go_roundw
            case rel => exact ⟨i, k + 1, oo2, co2, _, by go_num, by go_num, hl8, by omega, by omega, hr8, hB8, hO7, ht8, hE8⟩
            case measure => simp [intOf]
    · have hc := hO.lenCap
      have hb := pB_mono (show k ≤ 8 by omega)
      rw [pB_8] at hb
      have hi0 : i = 0 := by omega
      subst hi0
      go_wp2_with fail
      go_ret
      exact ⟨hE, oo, l, co, by rw [hlk]; rfl, by omega, by omega, by omega, hrl, fun r hr q hq => Nat.le_trans (hBM r hr q hq) hb, htr, hO⟩
end Go.Proofs.YthipmbmjodhiiaaGreat


namespace Go.Rep
open Go.RowKit Go.Lim
theorem OL.toRV {X : Nat → Bool} {base : Nat} {e : TypeId} {w : World} {ao : Option Addr} {cap : Nat} {l : List (List Rat)} (h : OL RC 1 X base e w ao cap l) (hb : BM 68719476736 l) : OL RV 1 X base e w ao cap l := by
  obtain ⟨hx, us, h1, h2, h22, h3, h5⟩ := h
  exact ⟨hx, us, h1, h2, h22, h3, fun i hi hi' => RC.rv (h5 i hi hi') (hb _ (List.getElem_mem _))⟩
theorem BM.le {B C : Nat} {m : List (List Rat)} (h : BM B m) (hBC : B ≤ C) : BM C m := fun r hr q hq => Nat.le_trans (h r hr q hq) hBC
theorem BM.set {B : Nat} {m : List (List Rat)} (h : BM B m) {r : List Rat} (hr : BR B r) (i : Nat) : BM B (m.set i r) := fun x hx => by
  rcases List.mem_or_eq_of_mem_set hx with hx | rfl
  · exact h x hx
  · exact hr
end Go.Rep
namespace Go.Proofs.YthipmbmjodhiiaaGreat
open Go.RowKit Go.Rep Go.Lim
end Go.Proofs.YthipmbmjodhiiaaGreat


namespace Go.Proofs.YthipmbmjodhiiaaGreat
open Go.RowKit Go.Rep Go.Lim
/-- Some row is drawn. -/
def TAtOut (X : Nat → Bool) (tb B L : Nat) (w : World) (e : Ending) (w' : World) : Prop := ExtX (tbm tb) w w' ∧ TapeR X tb w' ∧ ∃ v y, e = .returned v ∧ RV (mk X w') v y ∧ BR B y ∧ y.length ≤ L
def midL (a b : List Rat) : List Rat := List.zipWith (fun x y => ((1 : Int) : Rat) / ((2 : Int) : Rat) * (x + y)) a b
theorem hq_mid {x y : Rat} {B : Nat} (hx : hq x ≤ B) (hy : hq y ≤ B) : hq (x + y) ≤ 2 * B + 1 ∧ hq (((1 : Int) : Rat) / ((2 : Int) : Rat)) ≤ 2 ∧ hq (((1 : Int) : Rat) / ((2 : Int) : Rat) * (x + y)) ≤ 2 * B + 3 := by
  have h1 := hq_add x y
  have h2 := hq_frac (a := 1) (k := 2) (by omega) (by omega) (by omega) (by omega)
  have h3 := hq_mul (((1 : Int) : Rat) / ((2 : Int) : Rat)) (x + y)
  omega
theorem midL_br {a b : List Rat} {B : Nat} (ha : BR B a) (hb : BR B b) : BR (2 * B + 3) (midL a b) := fun q hq' => by
  unfold midL at hq'
  obtain ⟨i, hi, rfl⟩ := List.getElem_of_mem hq'
  rw [List.getElem_zipWith]
  simp at hi
  exact (hq_mid (ha _ (List.getElem_mem (by omega))) (hb _ (List.getElem_mem (by omega)))).2.2

set_option maxRecDepth 100000 in
set_option maxHeartbeats 3200000 in
theorem tat_any (X : Nat → Bool) (tb : Nat) (w : World) (u : Value) (m : List (List Rat)) (B L : Nat) (ht : TapeR X tb w) (hX : HX X w) (hu : MV (mk X w) u m) (hm : m.length ≤ 1000) (hB : BM B m) (hL : ∀ r ∈ m, r.length ≤ L) (hBB : B ≤ 1000000000) (hL4 : 4 ≤ L) (hLL : L ≤ 1000) :
    Calls Tryz.prog 16 #[.pointer (some ⟨tb, 0, none⟩), u] w (TAtOut X tb (2 * B + 3) L w) := by
  have hsub := tbm_sub ht.1
  have htX := ht.1
  obtain ⟨po, pc, rfl, hpc, hpp⟩ := hu
  obtain ⟨f, hf⟩ := hpp.rowsF
  have hhd := hpp.hd
  obtain ⟨g, hg⟩ : ∃ g : Nat → Nat, ∀ j (hj : j < m.length), m[j].length = g j := ⟨fun j => (m.getD j []).length, fun j hj => by simp [List.getD_eq_getElem?_getD, hj]⟩
  have hgd := hid hg
  obtain ⟨k, hk⟩ : ∃ k, m.length = k := ⟨_, rfl⟩
  have hk' := hid hk
  have hB' := hid hB
  have hL' := hid hL
  have hf' := hid hf
  have hpp' := hid hpp
  rw [hk] at hpc hhd hm ⊢
  clear hk hB hL hf hpp hg
  have hodd : Hid (∀ w1, ExtX (tbm tb) w w1 → TapeR X tb w1 → ∀ c : Nat, c < 5 → Calls Tryz.prog 35 #[.pointer (some ⟨tb, 0, none⟩), .int .i64 (c : Int)] w1 (fun e w' => TAtOut X tb (2 * B + 3) L w e w' ∧ ∃ ao n cap, e = .returned (.slice ao n cap))) := hid fun w1 hE1 ht1 c hc => by
    refine (toddrow_any X tb c w1 ht1 (hX.ext hE1) (by omega)).mono ?_
    rintro e w2 ⟨hE2, ao, l, cap, rfl, hl, hcap, hB2, ht2, hO2⟩
    exact ⟨⟨hE1.trans hE2, ht2.unX htX, _, l, rfl, ⟨ao, cap, by rw [hl], by omega, hO2.sl QV.elem⟩, fun q hq => Nat.le_trans (hB2 q hq) (by omega), by omega⟩, _, _, _, rfl⟩
  by_cases h0 : k = 0
  · have t0 : ((k : Int) == 0) = true := beqT (by omega)
    go_enter Tryz.func16, Tryz.ntmps16
    go_wp2_with fail
    refine (next_any X tb 5 _ ht (by omega)).mono ?_
    rintro e w1 ⟨hE1, ht1, c, rfl, hc⟩
    go_wp2_with fail
    refine (hodd.out w1 hE1 ht1 c (by omega)).mono ?_
    rintro e w2 ⟨h2, ao, n, cap, rfl⟩
    go_wp2_with fail
    go_ret
    exact h2
  have t0 : ((k : Int) == 0) = false := beqF (by omega)
  go_enter Tryz.func16, Tryz.ntmps16
  go_wp2_with fail
  refine (tbool_any X tb 12 _ ht (by omega) (by omega)).mono ?_
  rintro e w1 ⟨hE1, ht1, b1, rfl⟩
  cases b1
  rotate_left 1
  · go_wp2_with fail
    refine (next_any X tb 5 _ ht1 (by omega)).mono ?_
    rintro e w2 ⟨hE2, ht2, c, rfl, hc⟩
    go_wp2_with fail
    refine (hodd.out w2 (hE1.trans hE2) ht2 c (by omega)).mono ?_
    rintro e w3 ⟨h3, ao, n, cap, rfl⟩
    go_wp2_with fail
    go_ret
    exact h3
  clear hodd
  have hbt : Hid (∀ j, j < k → (adr po j).block ≠ tb) := hid fun j hj => by
    obtain ⟨u, h1, _⟩ := hpp'.out.cell SlV.one j (by rw [hk'.out]; exact hj)
    intro he
    simp [mk, he, htX] at h1
  have hS : Hid (∀ w', ExtX (tbm tb) w1.drew w' → ∀ j, j < k → w'.cell? (adr po j) = some (.slice (f j).1 (g j) (f j).2)) := hid fun w' h j hj => by
    have hjl : j < m.length := by rw [hk'.out]; exact hj
    have h1 := mk_cell (hf'.out j hjl).1
    rw [hgd.out j hjl] at h1
    exact (hE1.drew.trans h).cellY h1 (tbm_ne (hbt.out j hj))
  have htd : TapeR X tb w1.drew := ht1.ext (ExtX.refl _).drew
  have i1 : ∀ j, j < k → ∀ W, (Instr.indexAt 25 (.slice po k pc) (.int .i64 (j : Int))).run Tryz.prog W = .ok (.pointer (some (adr po j))) W := fun j hj => run_ix1 slRats po k pc .i64 j hhd hj rfl
  have i1' := hid i1
  have hkb : (k : Int) ≤ 1099511627776 := by omega
  clear i1
  go_wp2_with fail
  go_region_held3 (fun w' => ∀ j, j < k → w'.cell? (adr po j) = some (.slice (f j).1 (g j) (f j).2))
    (first | exact hS.out _ (ExtX.refl _) | exact hS.out _ t1 | exact hS.out _ (t1.trans t2) | go_keep)
    (first | (go_at_call 31; (with_reducible refine (next_any X tb k w1.drew htd hkb).mono ?_); rintro ee w4 ⟨t1, ht4, m4, rfl, hm4⟩; have hm4k : m4 < k := (by omega); have i4 := i1'.out m4 hm4k) | (go_at_call 31; (with_reducible refine (next_any X tb k w4 ht4 hkb).mono ?_); rintro ee w5 ⟨t2, ht5, m5, rfl, hm5⟩; have hm5k : m5 < k := (by omega); have i5 := i1'.out m5 hm5k) | fail)
  have hla : m4 < m.length := by rw [hk'.out]; exact hm4k
  have hlb : m5 < m.length := by rw [hk'.out]; exact hm5k
  have hE5 : ExtX (tbm tb) w w5 := hE1.trans (((ExtX.refl _).drew).trans (t1.trans t2))
  obtain ⟨_, hca, hsa⟩ := hf'.out m4 hla
  obtain ⟨_, hcb, hsb⟩ := hf'.out m5 hlb
  have hBa := hid (hB'.out _ (List.getElem_mem hla))
  have hBb := hid (hB'.out _ (List.getElem_mem hlb))
  have hLa := hL'.out _ (List.getElem_mem hla)
  have hLb := hL'.out _ (List.getElem_mem hlb)
  have ga := hgd.out m4 hla
  have gb := hgd.out m5 hlb
  obtain ⟨ra, hra⟩ : ∃ ra, m[m4] = ra := ⟨_, rfl⟩
  obtain ⟨rb, hrb⟩ : ∃ rb, m[m5] = rb := ⟨_, rfl⟩
  obtain ⟨⟨aa, ac⟩, hfa⟩ : ∃ q, f m4 = q := ⟨_, rfl⟩
  obtain ⟨⟨ba, bc⟩, hfb⟩ : ∃ q, f m5 = q := ⟨_, rfl⟩
  rw [hra] at hca hsa hBa hLa ga
  rw [hrb] at hcb hsb hBb hLb gb
  rw [hfa] at hca hsa
  rw [hfb] at hcb hsb
  dsimp only at hca hcb hsa hsb
  obtain ⟨da, hda⟩ : ∃ da, ra.length = da := ⟨_, rfl⟩
  obtain ⟨db, hdb⟩ : ∃ db, rb.length = db := ⟨_, rfl⟩
  have hda' := hid hda
  have hdb' := hid hdb
  have hha := hsa.hd
  have hhb := hsb.hd
  rw [hda] at hca hLa hha ga
  rw [hdb] at hcb hLb hhb gb
  have ga' := hid ga
  have gb' := hid gb
  have hfa' := hid hfa
  have hfb' := hid hfb
  have hX5 := hX.ext hE5
  have hsa5 := hsa.mono QV.mono (mk_mono hE5 hsub)
  have hsb5 := hsb.mono QV.mono (mk_mono hE5 hsub)
  clear hra hrb hfa hfb hS hbt htd ht4 i4 i5 hm4 hm5 t1 t2 hE1 ht1 hsa hsb hda hdb i1' ht ga gb
  rw [hfa'.out, hfb'.out, ← ga'.out, ← gb'.out]
  dsimp only
  go_wp2_with fail
  have hrow : Hid (∀ w1, ExtX (tbm tb) w w1 → TapeR X tb w1 → Calls Tryz.prog 17 #[.pointer (some ⟨tb, 0, none⟩), .int .i64 (da : Int)] w1 (fun e w' => TAtOut X tb (2 * B + 3) L w e w' ∧ ∃ ao n cap, e = .returned (.slice ao n cap))) := hid fun w1 hE1 ht1 => by
    refine (trow_any X tb da w1 ht1 (hX.ext hE1) (by omega)).mono ?_
    rintro e w2 ⟨hE2, ao, l, cap, rfl, hl, hcap, hB2, ht2, hO2⟩
    have hRC : RC (mk X w2) (.slice ao da cap) l := ⟨ao, cap, by rw [hl], by omega, hO2.sl QC.elem⟩
    exact ⟨⟨hE1.trans hE2, ht2.unX htX, _, l, rfl, hRC.rv (fun q hq => Nat.le_trans (hB2 q hq) (by omega)), fun q hq => Nat.le_trans (hB2 q hq) (by omega), by omega⟩, _, _, _, rfl⟩
  refine (tbool_any X tb 3 _ ht5 (by omega) (by omega)).mono ?_
  rintro e w6 ⟨hE6, ht6, b2, rfl⟩
  have hF6 := hE5.trans hE6
  cases b2
  rotate_left 1
  · go_wp2_with fail
    refine (hrow.out w6 hF6 ht6).mono ?_
    rintro e w7 ⟨h7, ao, n, cap, rfl⟩
    go_wp2_with fail
    go_ret
    exact h7
  by_cases hab : da = db
  rotate_left 1
  · have t1 : ((da : Int) != (db : Int)) = true := bneT (by omega)
    go_wp2_with fail
    refine (hrow.out w6 hF6 ht6).mono ?_
    rintro e w7 ⟨h7, ao, n, cap, rfl⟩
    go_wp2_with fail
    go_ret
    exact h7
  have t1 : ((da : Int) != (db : Int)) = false := bneF (by omega)
  have hab' := hid hab
  have hab1 : da ≤ db := by omega
  have hab2 : db ≤ da := by omega
  clear hab hrow
  go_wp2_with fail
  refine (tbool_any X tb 2 _ ht6 (by omega) (by omega)).mono ?_
  rintro e w7 ⟨hE7, ht7, b3, rfl⟩
  have hF7 := hF6.trans hE7
  have hX7 := hX.ext hF7
  have hsa7 := hsa5.mono QV.mono (mk_mono (hE6.trans hE7) hsub)
  have hsb7 := hsb5.mono QV.mono (mk_mono (hE6.trans hE7) hsub)
  clear hE5 hE6 hE7 ht5 ht6 hF6 hsa5 hsb5
  cases b3
  rotate_left 1
  · go_wp2_with (at_builtin; refine st_copyNil slRat rfl QV.elem w7.heap.size (Nat.le_refl _) hX7 ra da hda'.out rfl rfl hsa7 (by omega) (by omega) ?_; intro po5 pc5 w8 hO8 hc8 hE8)
    go_ret
    exact ⟨hF7.trans (ExtX.of hE8), ht7.ext hE8, _, ra, rfl, ⟨po5, pc5, by rw [hda'.out]; rfl, by rw [hda'.out]; exact hc8, hO8.sl QV.elem⟩, fun q hq => Nat.le_trans (hBa.out q hq) (by omega), by rw [hda'.out]; exact hLa⟩
  have hml : Hid ((midL ra rb).length = da) := hid (by unfold midL; simp [hda'.out, hdb'.out, hab'.out])
  obtain ⟨M, hM⟩ : ∃ M, midL ra rb = M := ⟨_, rfl⟩
  have hMB : BR (2 * B + 3) M := by rw [← hM]; exact midL_br hBa.out hBb.out
  have hMi := hid (show ∀ j (h1 : j < ra.length) (h2 : j < rb.length) (h3 : j < M.length), M[j] = ((1 : Int) : Rat) / ((2 : Int) : Rat) * (ra[j] + rb[j]) from fun j h1 h2 h3 => by subst hM; simp [midL])
  rw [hM] at hml
  clear hM
  have hMl1 : M.length ≤ da := by rw [hml.out]; exact Nat.le_refl _
  have hMl2 : da ≤ M.length := by rw [hml.out]; exact Nat.le_refl _
  obtain ⟨wo, hwo⟩ : ∃ wo, wo = w7 := ⟨_, rfl⟩
  subst hwo
  go_wp2_with fail
  go_loopw [7, 55] (fun o cc wr => ∃ (j : Nat) (oo : Option Addr) (co : Nat), cc = .int .i64 j ∧ o = .slice oo j co ∧ j ≤ da ∧ OL QC 3 X wo.heap.size 34 wr oo co (M.take j) ∧ Ext wo wr) (fun _ cc _ => da - (intOf cc).toNat)
  case atStart => exact ⟨0, none, 0, rfl, rfl, Nat.zero_le _, OL.nil _ _ _ _ _ _, ExtX.refl _⟩
  case round =>
    obtain ⟨j, oo, co, rfl, rfl, hj, hO, hE⟩ := hrel
    have hXr : HX X wr := hX7.ext hE
    have hXu : HX (un X oo) wr := hO.unX hXr
    have hbase := hE.size
    by_cases hlt : j < da
    · have hja : j < ra.length := by rw [hda'.out]; exact hlt
      have hjb : j < rb.length := by rw [hdb'.out]; omega
      have hsr : Sl QV 3 (mk (un X oo) wr) aa ra := hsa7.old QV.mono hE (fun j hj => hO.ob_lt hj)
      have hsr2 : Sl QV 3 (mk (un X oo) wr) ba rb := hsb7.old QV.mono hE (fun j hj => hO.ob_lt hj)
      have hltM : j < M.length := by omega
      have htk := hid (take_snoc M j hltM)
      have hln := hid (len_take (l := M) (i := j) (by omega))
      obtain ⟨g1, o1, s1, a1, n1, c1, d1, k1, e1, hg1, hX1, hc1, hq1⟩ := hsr.rat QV.shaped j hja
      obtain ⟨g2, o2, s2, a2, n2, c2, d2, k2, e2, hg2, hX2, hc2, hq2⟩ := hsr2.rat QV.shaped j hjb
      have hob1 := (un_false hX1).2
      have hob2 := (un_false hX2).2
      have i1 : ∀ W, (Instr.indexAt 27 (.slice aa da ac) (.int .i64 (j : Int))).run Tryz.prog W = .ok (.pointer (some ⟨g1, o1, none⟩)) W := by rw [← hg1]; exact run_indexAt_adr slRat aa da ac .i64 j hha (by omega)
      have i2 : ∀ W, (Instr.indexAt 27 (.slice ba db bc) (.int .i64 (j : Int))).run Tryz.prog W = .ok (.pointer (some ⟨g2, o2, none⟩)) W := by rw [← hg2]; exact run_indexAt_adr slRat ba db bc .i64 j hhb (by omega)
      have hbx := hid (hBa.out _ (List.getElem_mem hja))
      have hby := hid (hBb.out _ (List.getElem_mem hjb))
      have hMj := hMi.out j hja hjb hltM
      obtain ⟨x, hx⟩ : ∃ x, ra[j] = x := ⟨_, rfl⟩
      obtain ⟨y, hy⟩ : ∃ y, rb[j] = y := ⟨_, rfl⟩
      rw [hx] at hq1 hbx hMj
      rw [hy] at hq2 hby hMj
      rw [hMj] at htk
      obtain ⟨h, hh⟩ : ∃ h, ((1 : Int) : Rat) / ((2 : Int) : Rat) = h := ⟨_, rfl⟩
      have hmb := hid (hq_mid hbx.out hby.out)
      have hfr := hid (fun W (hW : HX (un X oo) W) => rqfraction (un X oo) W 1 2 hW (by decide) (by decide) (by decide) (by decide) (by decide) (Nat.le_trans (lgI (by decide) (by decide)) (by decide)) (Nat.le_trans (lgI (by decide) (by decide)) (by decide)))
      rw [hh] at htk hmb hfr
      have hsq : Hid (hq (x + y) ≤ 68719476736) := hid (by have := hmb.out.1; omega)
      have hhq : Hid (hq h ≤ 68719476736) := hid (by have := hmb.out.2.1; omega)
      have hEd : Ext wr wr.drew := (ExtX.refl wr).drew
      have hS : Hid (∀ Y W', ExtX Y wr.drew W' → Y g1 = false → Y g2 = false → W'.cell? ⟨g1, o1, none⟩ = some (.bool s1) ∧ W'.cell? ⟨g1, o1 + 1, none⟩ = some (.slice a1 n1 c1) ∧ W'.cell? ⟨g1, o1 + 2, none⟩ = some (.slice d1 k1 e1) ∧ W'.cell? ⟨g2, o2, none⟩ = some (.bool s2) ∧ W'.cell? ⟨g2, o2 + 1, none⟩ = some (.slice a2 n2 c2) ∧ W'.cell? ⟨g2, o2 + 2, none⟩ = some (.slice d2 k2 e2)) := hid fun Y W' h hg hb => by
        have p1 := hc1.out Y W' ((ExtX.of hEd).trans h) hg
        have p2 := hc2.out Y W' ((ExtX.of hEd).trans h) hb
        exact ⟨p1.1, p1.2.1, p1.2.2, p2.1, p2.2.1, p2.2.2⟩
      obtain ⟨k00, k01, k02, k10, k11, k12⟩ := hS.out noY wr.drew (ExtX.refl _) rfl rfl
      have hxd : QV (mk (un X oo) wr.drew) (.agg #[.bool s1, .slice a1 n1 c1, .slice d1 k1 e1]) x := hq1
      have hyd : QV (mk (un X oo) wr.drew) (.agg #[.bool s2, .slice a2 n2 c2, .slice d2 k2 e2]) y := hq2
      have hXd : HX (un X oo) wr.drew := hXu
      clear hc1 hg1 hq1 hc2 hg2 hq2 hx hy hMj hh
      go_wp2_with fail
      go_region_held3 (fun w' => w'.cell? ⟨g1, o1, none⟩ = some (.bool s1) ∧ w'.cell? ⟨g1, o1 + 1, none⟩ = some (.slice a1 n1 c1) ∧ w'.cell? ⟨g1, o1 + 2, none⟩ = some (.slice d1 k1 e1) ∧ w'.cell? ⟨g2, o2, none⟩ = some (.bool s2) ∧ w'.cell? ⟨g2, o2 + 1, none⟩ = some (.slice a2 n2 c2) ∧ w'.cell? ⟨g2, o2 + 2, none⟩ = some (.slice d2 k2 e2))
        (first | exact hS.out (ob oo) _ ((ExtX.of t123).trans hE7) hob1 hob2 | exact hS.out noY _ (ExtX.alloc t123 _) rfl rfl | exact hS.out noY _ t123 rfl rfl | exact hS.out noY _ t12 rfl rfl | exact hS.out noY _ t1 rfl rfl | go_keep)
        (first
          | (go_at_call 47; (with_reducible refine (hfr.out wr.drew hXd).mono ?_); rintro ee w6 ⟨t1, u6, rfl, hu6⟩; obtain ⟨s6, a6, n6, c6, d6, k6, e6, rfl⟩ := hu6.shape; have hX6 := hXd.ext t1; have hu6v := hu6.qv hhq.out; have hx6 := mkx QV.mono hxd t1; have hy6 := mkx QV.mono hyd t1)
          | (go_at_call 48; (with_reducible refine (rqadd (un X oo) w6 _ _ x y hX6 hx6 hy6).mono ?_); rintro ee w7 ⟨t2, u7, rfl, hu7⟩; obtain ⟨s7, a7, n7, c7, d7, k7, e7, rfl⟩ := hu7.shape; have t12 := t1.trans t2; have hX7' := hXd.ext t12; have hu7v := hu7.qv hsq.out; have hf7 := mkx QV.mono hu6v t2)
          | (go_at_call 19; (with_reducible refine (rqmul (un X oo) w7 _ _ h (x + y) hX7' hf7 hu7v).mono ?_); rintro ee w8 ⟨t3, u8, rfl, hu8⟩; obtain ⟨s8, a8, n8, c8, d8, k8, e8, rfl⟩ := hu8.shape; have t123 := t12.trans t3; have hO8 := hO.ext0 QC.elem (hEd.trans t123); have hb8 := (hEd.trans t123).size; have hX8 := hXr.ext (hEd.trans t123))
          | (refine step_append1 (l := M.take j) rfl (by rfl) slRat rfl QC.elem (by omega) hX8 j hln.out rfl rfl hO8 (.agg #[.bool s8, .slice a8 n8 c8, .slice d8 k8 e8]) (h * (x + y)) rfl hu8 (by omega) (by omega) ?_; intro oo2 co2 w9 hO9 hE7 hor)
          | fail)
      have hE9 := (hE.trans (hEd.trans t123)).own hO8 (Nat.le_refl _) hE7
      rw [htk.out] at hO9
      clear k00 k01 k02 k10 k11 k12
      go_wp2_with fail
      go_roundw
      case rel => exact ⟨j + 1, oo2, co2, by go_num, by go_num, by omega, hO9, hE9⟩
      case measure => simp [intOf]; omega
    · have hjl : j = da := by omega
      subst hjl
      rw [List.take_of_length_le (by omega)] at hO
      have hc := hO.lenCap
      have hRC : RC (mk X wr) (.slice oo j co) M := ⟨oo, co, by rw [hml.out], hc, hO.sl QC.elem⟩
      go_wp2_with fail
      go_ret
      exact ⟨hF7.trans (ExtX.of hE), ht7.ext hE, _, M, rfl, hRC.rv (fun q hq => Nat.le_trans (hMB q hq) (by omega)), hMB, by rw [hml.out]; exact hLa⟩
end Go.Proofs.YthipmbmjodhiiaaGreat


namespace Go.Lin
open Go.Lim Go.Rep
def P4 : Mat := [[0], [1], [2], [3]]
theorem aw_ok1 : depOk P4 [1] = true := by decide +kernel
theorem aw_ok2 : depOk P4 [mkRat 1 2] = true := by decide +kernel
theorem aw_ok3 : depOk P4 [5] = true := by decide +kernel
theorem aw_v (x : Rat) (k : Nat) (h : depOk P4 [x] = true) (e : 4 - max (posM 1 [1] (fromM 1 P4 [x])) (negM 1 [1] (fromM 1 P4 [x])) = k) : depV P4 [x] = k := by
  refine depV_yes h ?_
  have := dep_one (fromM 1 P4 [x])
  have e2 : (fromM 1 P4 [x]).length = 4 := by simp [fromM, P4]
  rw [e2, e] at this
  exact this
theorem aw1 : depV P4 [1] = 2 := aw_v 1 2 aw_ok1 (by decide +kernel)
theorem aw2 : depV P4 [mkRat 1 2] = 1 := aw_v _ 1 aw_ok2 (by decide +kernel)
theorem aw3 : depV P4 [5] = 0 := aw_v 5 0 aw_ok3 (by decide +kernel)
theorem P4_bm : BM 2 P4 := by
  intro r hr q hq
  have : (P4.all fun r => r.all fun q => decide (Go.Lim.hq q ≤ 2)) = true := by decide +kernel
  rw [List.all_eq_true] at this
  have := this r hr
  rw [List.all_eq_true] at this
  simpa using this q hq
theorem P4_get (i : Nat) (h : i < P4.length) : P4[i] = [((i : Nat) : Rat)] := by
  match i, h with
  | 0, _ => rfl
  | 1, _ => rfl
  | 2, _ => rfl
  | 3, _ => rfl
end Go.Lin
namespace Go.Proofs.YthipmbmjodhiiaaGreat
open Go.RowKit Go.Rep Go.Lim Go.Lin
theorem hnoX (w : World) : HX noY w := fun k hk => by simp [noY] at hk

set_option maxRecDepth 100000 in
set_option maxHeartbeats 800000 in
theorem awake25_any (w : World) : Calls Tryz.prog 21 #[] w (BOut w true) := by
  go_enter Tryz.func21, Tryz.ntmps21
  go_wp2_with fail
  go_loopw [1, 2] (fun o cx wr => ∃ (i : Nat) (po : Option Addr) (pc : Nat), cx = .int .i64 i ∧ o = .slice po i pc ∧ i ≤ 4 ∧ OL RC 1 noY w.heap.size 27 wr po pc (P4.take i) ∧ Ext w wr) (fun _ cx _ => 4 - (intOf cx).toNat)
  case atStart => exact ⟨0, none, 0, rfl, rfl, Nat.zero_le _, OL.nil _ _ _ _ _ _, ExtX.refl _⟩
  case round =>
    obtain ⟨i, po, pc, rfl, rfl, hi, hO, hE⟩ := hrel
    by_cases hlt : i < 4
    · have hil : i < P4.length := hlt
      have htk := hid (take_snoc P4 i hil)
      have hln := hid (len_take (l := P4) (i := i) (Nat.le_of_lt hil))
      have hg := hid (P4_get i hil)
      rw [hg.out] at htk
      have hXu : HX (un noY po) wr := hO.unX (hnoX wr)
      have hiv : Hid ((((i : Int) : Rat)) = ((i : Nat) : Rat)) := hid rfl
      go_wp2_with fail
      refine (rqfrom (un noY po) wr (i : Int) hXu (by omega) (by omega)).mono ?_
      rintro e w5 ⟨hE5, u5, rfl, hu5⟩
      rw [hiv.out] at hu5
      obtain ⟨s5, a5, n5, c5, d5, m5, e5, rfl⟩ := hu5.shape
      have hL1 := (lit_rat1 (un noY po) w5 s5 a5 n5 c5 d5 m5 e5 ((i : Nat) : Rat) 34 (hXu.ext hE5) hu5).sl QC.elem
      have hEA : Ext w5 (w5.alloc (.cells #[.bool s5, .slice a5 n5 c5, .slice d5 m5 e5] 34)) := (ExtX.refl _).alloc _
      obtain ⟨wA, hwA⟩ : ∃ wA, w5.alloc (.cells #[.bool s5, .slice a5 n5 c5, .slice d5 m5 e5] 34) = wA := ⟨_, rfl⟩
      obtain ⟨gA, hgA⟩ : ∃ gA : Option Addr, some ⟨w5.heap.size, 0, none⟩ = gA := ⟨_, rfl⟩
      rw [hwA, hgA] at hL1
      rw [hwA] at hEA
      have hOA := hO.ext0 RC.elem (hE5.trans hEA)
      have hRC : RC (mk (un noY po) wA) (.slice gA 1 1) [((i : Nat) : Rat)] := ⟨gA, 1, rfl, Nat.le_refl _, hL1⟩
      have hbA := (hE.trans (hE5.trans hEA)).size
      have hEwA := hE.trans (hE5.trans hEA)
      clear hO hu5 hL1
      go_wp2_with (at_builtin; refine st_append1n (l := P4.take i) slRats rfl RC.elem hbA (hnoX wA) i hln.out rfl rfl hOA (.slice gA 1 1) [((i : Nat) : Rat)] rfl hRC (by omega) (by omega) ?_; intro oo2 co2 w7 hO7 hE7 hor)
      have hE8 := hEwA.own hOA (Nat.le_refl _) hE7
      rw [htk.out] at hO7
      go_roundw
      case rel => exact ⟨i + 1, oo2, co2, by go_num, by go_num, by omega, hO7, hE8⟩
      case measure => simp [intOf]; omega
    · have hi4 : i = 4 := by omega
      subst hi4
      have ht4 : P4.take 4 = P4 := rfl
      rw [ht4] at hO
      have hP := (hO.toRV (P4_bm.le (by decide))).sl RV.elem
      have hPc := hO.lenCap
      have hPV : MV (mk noY wr) (.slice po 4 pc) P4 := ⟨po, pc, rfl, hPc, hP⟩
      obtain ⟨a1, c1, hX1, hc1, hcl1, hq1⟩ := hP.row 1 (by decide)
      have k00 := hc1.out noY wr (ExtX.refl _) rfl
      have hh : Hd po 4 := hP.hd
      have hrow : RV (mk noY wr) (.slice a1 1 c1) [1] := ⟨a1, c1, rfl, hcl1, hq1⟩
      have hd1 := hdepth_any noY wr (.slice po 4 pc) (.slice a1 1 c1) P4 [1] 2 (hnoX wr) hPV hrow (by decide) P4_bm (fun q hq => by rw [List.mem_singleton.1 hq]; decide +kernel) (by decide) (by decide)
      rw [aw1, aw_ok1] at hd1
      have k01 : wr.cell? (adr po 1) = some (.slice a1 1 c1) := k00
      clear k00 hc1 hO hP
      go_wp2_with (with_reducible refine up_ix1 slRats (by omega) (by assumption) ?_)
      refine hd1.mono ?_
      rintro e w2 ⟨hE2, rfl⟩
      clear hd1 k01
      have hEw2 := hE.trans hE2
      go_wp2_with fail
      refine (rqfraction noY w2 1 2 (hnoX w2) (by decide) (by decide) (by decide) (by decide) (by decide) (by decide +kernel) (by decide +kernel)).mono ?_
      rintro e w3 ⟨hE3, u3, rfl, hu3⟩
      have hf2 : ((1 : Int) : Rat) / ((2 : Int) : Rat) = mkRat 1 2 := by decide +kernel
      rw [hf2] at hu3
      obtain ⟨s3, a3, n3, c3, d3, m3, e3, rfl⟩ := hu3.shape
      have hL3 := (lit_rat1 noY w3 s3 a3 n3 c3 d3 m3 e3 (mkRat 1 2) 34 (hnoX w3) hu3).sl QC.elem
      have hEA : Ext w3 (w3.alloc (.cells #[.bool s3, .slice a3 n3 c3, .slice d3 m3 e3] 34)) := (ExtX.refl _).alloc _
      obtain ⟨wA, hwA⟩ : ∃ wA, w3.alloc (.cells #[.bool s3, .slice a3 n3 c3, .slice d3 m3 e3] 34) = wA := ⟨_, rfl⟩
      obtain ⟨gA, hgA⟩ : ∃ gA : Option Addr, some ⟨w3.heap.size, 0, none⟩ = gA := ⟨_, rfl⟩
      rw [hwA, hgA] at hL3
      rw [hwA] at hEA
      have hEw3 := hEw2.trans (hE3.trans hEA)
      have hd2 := hdepth_any noY wA (.slice po 4 pc) (.slice gA 1 1) P4 [mkRat 1 2] 2 (hnoX wA) (mkx MV.mono hPV (hE2.trans (hE3.trans hEA))) ⟨gA, 1, rfl, Nat.le_refl _, hL3.qv fun q hq => by rw [List.mem_singleton.1 hq]; decide +kernel⟩ (by decide) P4_bm (fun q hq => by rw [List.mem_singleton.1 hq]; decide +kernel) (by decide) (by decide)
      rw [aw2, aw_ok2] at hd2
      clear hL3 hu3 hrow
      go_wp2_with fail
      refine hd2.mono ?_
      rintro e w4 ⟨hE4, rfl⟩
      clear hd2
      have hEw4 := hEw3.trans hE4
      go_wp2_with fail
      refine (rqfrom noY w4 5 (hnoX w4) (by decide) (by decide)).mono ?_
      rintro e w5 ⟨hE5, u5, rfl, hu5⟩
      have hv5 : (((5 : Int) : Rat)) = 5 := rfl
      rw [hv5] at hu5
      obtain ⟨s5, a5, n5, c5, d5, m5, e5, rfl⟩ := hu5.shape
      have hL5 := (lit_rat1 noY w5 s5 a5 n5 c5 d5 m5 e5 5 34 (hnoX w5) hu5).sl QC.elem
      have hEB : Ext w5 (w5.alloc (.cells #[.bool s5, .slice a5 n5 c5, .slice d5 m5 e5] 34)) := (ExtX.refl _).alloc _
      obtain ⟨wB, hwB⟩ : ∃ wB, w5.alloc (.cells #[.bool s5, .slice a5 n5 c5, .slice d5 m5 e5] 34) = wB := ⟨_, rfl⟩
      obtain ⟨gB, hgB⟩ : ∃ gB : Option Addr, some ⟨w5.heap.size, 0, none⟩ = gB := ⟨_, rfl⟩
      rw [hwB, hgB] at hL5
      rw [hwB] at hEB
      have hEw5 := hEw4.trans (hE5.trans hEB)
      have hd3 := hdepth_any noY wB (.slice po 4 pc) (.slice gB 1 1) P4 [5] 2 (hnoX wB) (mkx MV.mono hPV (hE2.trans (hE3.trans (hEA.trans (hE4.trans (hE5.trans hEB)))))) ⟨gB, 1, rfl, Nat.le_refl _, hL5.qv fun q hq => by rw [List.mem_singleton.1 hq]; decide +kernel⟩ (by decide) P4_bm (fun q hq => by rw [List.mem_singleton.1 hq]; decide +kernel) (by decide) (by decide)
      rw [aw3, aw_ok3] at hd3
      clear hL5 hu5 hPV
      go_wp2_with fail
      refine hd3.mono ?_
      rintro e w6 ⟨hE6, rfl⟩
      clear hd3
      go_wp2_with fail
      go_ret
      exact ⟨hEw5.trans hE6, rfl⟩
end Go.Proofs.YthipmbmjodhiiaaGreat


namespace Go.Proofs.YthipmbmjodhiiaaGreat.seat
open Go.RowKit
theorem and_t {a b : Bool} (h1 : a = true) (h2 : b = true) : (a && b) = true := by rw [h1, h2]; rfl
theorem laid : laidOutB Tryz.pinned.checked.prog = true := by kernel_rfl
theorem maps : mapsRowed Tryz.pinned.checked.prog = true := by kernel_rfl
theorem stops : (Program.stops Tryz.pinned.checked.prog == []) = true := by kernel_rfl
theorem knobs : (Program.stopKnobs Tryz.pinned.checked.prog == []) = true := by kernel_rfl
theorem heard : Program.stopsHeard Tryz.pinned.checked.prog = true := by kernel_rfl
theorem enter : Program.mayEnter Tryz.pinned.checked.prog = true := by kernel_rfl
theorem lifts : (Rows.halfspaceMovesRow.lifted == Program.liftsFinal Tryz.pinned.checked.prog) = true := by kernel_rfl
theorem make : (Program.make Tryz.pinned.checked.prog == some Rows.halfspaceMovesRow.make) = true := by kernel_rfl
theorem plain : (Rows.halfspaceMovesRow.plainKeys == Program.plainKeys Tryz.pinned.checked.prog) = true := by kernel_rfl
end Go.Proofs.YthipmbmjodhiiaaGreat.seat


namespace Go.Proofs.YthipmbmjodhiiaaGreat
open Go.ChangeShapes Go.WideShapes Go.ChangeAt Go.RowKit Go.Rep Go.Deep

section
variable {H : Type} {enc : TypeId × Value → H} {w : World} {base : Nat} {spare : Nat → Bool} {held : Bool}

theorem adr_some {x : Addr} {v : Value} (h : w.cell? (x.add 0) = some v) : (∀ j, x.add j = adr (some x) j) ∧ ∃ b off, x = ⟨b, off, none⟩ := by
  have hs := World.cell?_spot h
  obtain ⟨b, off, spot⟩ := x
  have hspot : spot = none := by simpa [Addr.add] using hs
  subst hspot
  exact ⟨fun j => by rw [Addr.add_lit]; simp [adr], b, off, rfl⟩

end
end Go.Proofs.YthipmbmjodhiiaaGreat

