/- Parts of a proof: each theorem states what it proves, and its conditions. -/
import Derived.Test.YtnnpfhoigmegcaaGreatFlK
import Derived.Deep.DrawnRows
import Derived.Deep.LoopGhost
import Derived.WalkKit
import Derived.ProofKit
import Derived.OpenShut
import Derived.ShutString
import Derived.ChangeOld
import Derived.Below
import Derived.Deep.Slices
import Derived.Deep.Fields
import Derived.ChangeSame
import Derived.Test.YtnnpfhoigmegcaaGreatRows
import Derived.JoinedOf
namespace Go.Proofs.YtnnpfhoigmegcaaGreat
open Go.RowKit Go.Rep Go.Lim
def TDesOut (X : Nat -> Bool) (tb : Nat) (n k : Nat) (w : World) (e : Ending) (w' : World) : Prop := ExtX (tbm tb) w w' /\ TapeR X tb w' /\ ∃ (vx vy : Value) (p : List (List Rat)) (y : List Rat) (d : Nat), e = .returned (.tuple #[vx, vy]) /\ MV (mk X w') vx p /\ RV (mk X w') vy y /\ 1 <= p.length /\ p.length <= n /\ 1 <= d /\ d <= k /\ (∀ r ∈ p, r.length = d) /\ y.length = p.length /\ BM 2 p /\ BR 4 y
def RowIn (X : Nat -> Bool) (oo : Option Addr) (tb d : Nat) (w : World) (v : Value) (w' : World) : Prop := ∃ (po : Option Addr) (p : List Rat) (pc : Nat), v = .slice po d pc /\ p.length = d /\ BR 2 p /\ TapeR (un (un X oo) po) tb w' /\ OL QC 3 (un X oo) w.heap.size 41 w' po pc p /\ ExtX (tbm tb) w w'
theorem sl_rv {h : Mem} {ao : Option Addr} {l : List (List Rat)} (s : Sl RC 1 h ao l) (hb : BM 68719476736 l) : Sl RV 1 h ao l :=
  ⟨s.1, fun i hi => let ⟨u, h1, h2, h3⟩ := s.2 i hi; ⟨u, h1, h2, RC.rv h3 (hb _ (List.getElem_mem _))⟩⟩
def twN (y : List Rat) (p : List (List Rat)) (j : Nat) : List Rat := (List.range y.length).map fun i => if i < j then 2 * (p.getD i []).getD 0 0 else y.getD i 0
theorem twN_len (y : List Rat) (p : List (List Rat)) (j : Nat) : (twN y p j).length = y.length := by simp [twN]
theorem twN_zero (y : List Rat) (p : List (List Rat)) : y = twN y p 0 := by
  refine List.ext_getElem (by simp [twN]) fun i h1 h2 => ?_
  simp [twN, List.getD_eq_getElem?_getD, h1]
theorem twN_set (y : List Rat) (p : List (List Rat)) (j : Nat) : (twN y p j).set j (2 * (p.getD j []).getD 0 0) = twN y p (j + 1) := by
  refine List.ext_getElem (by simp [twN]) fun i h1 h2 => ?_
  rw [List.getElem_set]
  simp only [twN, List.getElem_map, List.getElem_range]
  split
  · subst_vars; simp
  · by_cases h : i < j
    · simp [h, show i < j + 1 by omega]
    · simp [h, show ¬ i < j + 1 by omega]
theorem hq_two {x : Rat} {B : Nat} (hx : hq x <= B) : hq (2 * x) <= B + 2 := by
  have h2 := hq_mul 2 x
  have h3 : hq (2 : Rat) <= 1 := hq_int 2 1 (lgI (by omega) (by omega)) (by omega)
  omega
theorem twN_br {y : List Rat} {p : List (List Rat)} (hy : BR 2 y) (hp : BM 2 p) (j : Nat) : BR 4 (twN y p j) := by
  intro q hq'
  unfold twN at hq'
  obtain ⟨i, hi, rfl⟩ := List.mem_map.1 hq'
  have hi := List.mem_range.1 hi
  split
  · refine hq_two ?_
    by_cases h : i < p.length
    · rw [show p.getD i [] = p[i] by simp [List.getD_eq_getElem?_getD, h]]
      by_cases h0 : 0 < p[i].length
      · rw [show p[i].getD 0 0 = p[i][0] by simp [List.getD_eq_getElem?_getD, h0]]
        exact hp _ (List.getElem_mem _) _ (List.getElem_mem _)
      · rw [show p[i].getD 0 0 = 0 by simp [List.getD_eq_getElem?_getD, List.getElem?_eq_none (show p[i].length <= 0 by omega)], hq_zero]; decide
    · rw [show p.getD i [] = [] by simp [List.getD_eq_getElem?_getD, List.getElem?_eq_none (show p.length <= i by omega)], show ([] : List Rat).getD 0 0 = 0 from rfl, hq_zero]; decide
  · rw [show y.getD i 0 = y[i] by simp [List.getD_eq_getElem?_getD, hi]]
    exact Nat.le_trans (hy _ (List.getElem_mem _)) (by decide)
set_option maxRecDepth 100000 in
set_option maxHeartbeats 3200000 in
theorem tdesign_any (X : Nat -> Bool) (tb n k : Nat) (w : World) (ht : TapeR X tb w) (hX : HX X w) (hn1 : 1 <= n) (hn : n <= 8) (hk1 : 1 <= k) (hk : k <= 8) :
    Calls Tryz.prog 15 #[.pointer (some ⟨tb, 0, none⟩), .int .i64 (n : Int), .int .i64 (k : Int)] w (TDesOut X tb n k w) := by
  have hsub := tbm_sub ht.1
  have htX := ht.1
  go_enter Tryz.func15, Tryz.ntmps15
  go_wp2_with fail
  refine (next_any X tb k w ht (by omega)).mono ?_
  rintro e w1 ⟨hE1, ht1, m, rfl, hm⟩
  have hd1 : (1 + (m : Int)) = ((m + 1 : Nat) : Int) := by omega
  have hdk : m + 1 <= k := by omega
  obtain ⟨d, hd⟩ : ∃ d, m + 1 = d := ⟨_, rfl⟩
  have hdp : 1 <= d := by omega
  rw [hd] at hd1 hdk
  clear hd hm
  go_wp2_with fail
  refine (tbool_any X tb 2 w1 ht1 (by decide) (by decide)).mono ?_
  rintro e w2 ⟨hE2, ht2, ones, rfl⟩
  go_wp2_with fail
  refine (next_any X tb n w2 ht2 (by omega)).mono ?_
  rintro e w3 ⟨hE3, ht3, m2, rfl, hm2⟩
  have hN1 : (1 + (m2 : Int)) = ((m2 + 1 : Nat) : Int) := by omega
  have hNn : m2 + 1 <= n := by omega
  obtain ⟨N, hN⟩ : ∃ N, m2 + 1 = N := ⟨_, rfl⟩
  have hNp : 1 <= N := by omega
  rw [hN] at hN1 hNn
  have hF3 := (hE1.trans hE2).trans hE3
  have hX3 := hX.ext hF3
  clear hN hm2 hE1 hE2 hE3 ht1 ht2 ht
  go_wp2_with fail
  go_loopw [9, 10] (fun s c wr => ∃ (i j : Nat) (oo : Option Addr) (co : Nat) (l : List (List Rat)), c = .int .i64 i /\ s = .slice oo j co /\ l.length = j /\ i + j = N /\ (∀ r ∈ l, r.length = d) /\ BM 2 l /\ OL RC 1 X w.heap.size 26 wr oo co l /\ TapeR (un X oo) tb wr /\ ExtX (tbm tb) w wr) (fun _ c _ => (intOf c).toNat)
  case atStart => exact ⟨N, 0, none, 0, [], rfl, rfl, rfl, rfl, by simp, fun r hr => by simp at hr, OL.nil _ _ _ _ _ _, by rw [show un X none = X by funext k; simp [un, ob]]; exact ht3, hF3⟩
  case round =>
    clear hF3 ht3 hX3
    obtain ⟨i, j, oo, co, l, rfl, rfl, hlk, hij, hrl, hBM, hO, htr, hE⟩ := hrel
    have hXr : HX X wr := hX.ext hE
    have hXu : HX (un X oo) wr := hO.unX hXr
    have hlk' := hid hlk
    have hrl' := hid hrl
    have hBM' := hid hBM
    by_cases hlt : 0 < i
    · obtain ⟨i, rfl⟩ : ∃ j, i = j + 1 := ⟨i - 1, by omega⟩
      obtain ⟨wo, hwo⟩ : ∃ wo, wo = wr := ⟨_, rfl⟩
      subst hwo
      clear hlk hrl hBM
      go_upto_region 7 with fail
      go_cut [11] from 28 to 30 (fun v wx => RowIn X oo tb d wo v wx)
      case first =>
        go_wp2_with fail
        refine (trow_any (un X oo) tb d wo htr hXu (by omega)).mono ?_
        rintro e w2 ⟨hE2, po, p, pc, rfl, hpl, hpc, hpB, ht2, hP⟩
        go_wp2_with fail
        all_goals go_meet
        all_goals case rel => exact ⟨po, p, pc, rfl, hpl, hpB, ht2, hP, hE2⟩
      case rest =>
      obtain ⟨po, p, pc, rfl, hpl, hpB, ht2, hP, hE2⟩ := hcut
      go_step
      go_step
      go_cut [11] from 31 to 45 (fun v wx => RowIn X oo tb d wo v wx)
      case first =>
        by_cases hj0 : 0 < j
        · go_wp2_with fail
          refine (tbool_any (un (un X oo) po) tb 6 wc ht2 (by decide) (by decide)).mono ?_
          rintro e w4 ⟨hE4, ht4, b2, rfl⟩
          have hP4 := hP.ext QC.elem hE4 (fun k _ hk => un_left (hsub k hk)) (fun _ _ h => h)
          have hE24 := hE2.trans hE4
          cases b2
          · go_wp2_with fail
            all_goals go_meet
            all_goals case rel => exact ⟨po, p, pc, rfl, hpl, hpB, ht4, hP4, hE24⟩
          · go_wp2_with fail
            refine (next_any (un (un X oo) po) tb j w4 ht4 (by omega)).mono ?_
            rintro e w5 ⟨hE5, ht5, m4, rfl, hm4⟩
            have hE25 := hE24.trans hE5
            have hm4' : m4 < l.length := by rw [hlk'.out]; omega
            have hO5 := hO.ext RC.elem hE25 (fun k _ hk => hsub k hk) (fun _ _ h => h)
            have hXu5 := hXu.ext hE25
            obtain ⟨u4, hc4, _, hr4⟩ := hO5.cell SlV.one m4 hm4'
            obtain ⟨a4, c4, rfl, hcl4, hs4⟩ := hr4
            have hhd := hO5.hd
            rw [hlk'.out] at hhd
            have hrd := hrl'.out l[m4] (List.getElem_mem _)
            have hrB := hBM'.out l[m4] (List.getElem_mem _)
            obtain ⟨r, hr⟩ : ∃ r, l[m4] = r := ⟨_, rfl⟩
            rw [hr] at hc4 hcl4 hs4 hrd hrB
            have hrd' := hid hrd
            rw [hrd] at hc4 hcl4
            have hm4k : m4 < j := by omega
            have ht5' : TapeR (un X oo) tb w5 := ht5.unX (un_left htX)
            have hs25 := hE25.size
            clear hr hrd hm4' hP4 hP hO5 ht5 ht4 ht2 hE4 hE5 hE24 hE2
            go_wp2_with (first | (with_reducible refine up_ix1 slRats (by omega) (by assumption) ?_) | (at_builtin; refine st_copyNil slRat rfl QC.elem w5.heap.size (Nat.le_refl _) hXu5 r d hrd'.out rfl rfl hs4 (by omega) (by omega) ?_; intro po5 pc5 w6 hO6 hc6 hE6))
            have ht6 := ht5'.old hE6 (fun j hj => hO6.ob_lt hj)
            have hE26 := hE25.trans (ExtX.of hE6)
            all_goals go_meet
            all_goals case rel => exact ⟨po5, r, pc5, rfl, hrd'.out, hrB, ht6, hO6.base_le hs25, hE26⟩
        · go_wp2_with fail
          all_goals go_meet
          all_goals case rel => exact ⟨po, p, pc, rfl, hpl, hpB, ht2, hP, hE2⟩
      case rest =>
      clear hpl hpB ht2 hP hE2
      obtain ⟨po, p, pc, rfl, hpl, hpB, ht2, hP, hE2⟩ := hcut
      obtain ⟨wq, hwq⟩ : ∃ wq, wq = wc := ⟨_, rfl⟩
      subst hwq
      have hZ2 : HX (un (un X oo) po) wq := hP.unX (hXu.ext hE2)
      have hpt : ob po tb = false := hP.not_ob (un_left htX)
      cases ones
      · have hOK := hO.ext RC.elem hE2 (fun k _ hk => hsub k hk) (fun _ _ h => h)
        have htK : TapeR (un X oo) tb wq := ht2.unX (un_left htX)
        have hFK := hE.trans hE2
        have hXK := hX.ext hFK
        have hpc := hP.lenCap
        have hRC : RC (mk (un X oo) wq) (.slice po d pc) p := ⟨po, pc, by rw [hpl], hpc, hP.sl QC.elem⟩
        have hp2l := hid hpl
        have hb7 := hFK.size
        clear hpl hpc hP ht2 hZ2
        go_wp2_with (at_builtin; refine st_append1n (l := l) slRats rfl RC.elem hb7 hXK j hlk'.out rfl rfl hOK (.slice po d pc) p rfl hRC (by omega) (by omega) ?_; intro oo2 co2 w7 hO7 hE7 hor)
        have hE8 := hFK.own hOK (Nat.le_refl _) hE7
        have ht8 := htK.unstep (hOK.not_ob htX) hE7 hor
        have hl8 : (l ++ [p]).length = j + 1 := by rw [List.length_append, hlk'.out]; rfl
        have hr8 : ∀ r ∈ l ++ [p], r.length = d := fun r hr => by
          rcases List.mem_append.1 hr with h | h
          · exact hrl'.out r h
          · rw [List.mem_singleton.1 h]; exact hp2l.out
        have hB8 : BM 2 (l ++ [p]) := fun r hr => by
          rcases List.mem_append.1 hr with h | h
          · exact hBM'.out r h
          · rw [List.mem_singleton.1 h]; exact hpB
        go_roundw
        case rel => exact ⟨i, j + 1, oo2, co2, _, by go_num, by go_num, hl8, by omega, hr8, hB8, hO7, ht8, hE8⟩
        case measure => simp [intOf]
      · have h0 : 0 < p.length := by omega
        have hhp : Hd po d := by have := hP.hd; rw [hpl] at this; exact this
        obtain ⟨g, o, hg⟩ : ∃ g o, adr po (0 * 3) = ⟨g, o, none⟩ := ⟨_, _, rfl⟩
        have i1 : ∀ W, (Instr.indexAt 26 (.slice po d pc) (.int .i64 0)).run Tryz.prog W = .ok (.pointer (some ⟨g, o, none⟩)) W := by rw [<- hg]; exact run_indexAt_adr slRat po d pc .i64 0 hhp (by omega)
        have hg' := hid hg
        have hpl' := hid hpl
        clear hg hpl
        go_wp2_with fail
        refine (rqfrom (un (un X oo) po) wq 1 hZ2 (by decide) (by decide)).mono ?_
        rintro e w6 ⟨t1, u6, rfl, hu6⟩
        obtain ⟨s6, a6, n6, c6, d6, k6, e6, rfl⟩ := hu6.shape
        have hP6 := hP.ext0 QC.elem t1
        obtain ⟨_, v0, v1, v2, _, ⟨q0, f0⟩, ⟨q1, f1⟩, ⟨q2, f2⟩, _⟩ := hP6.cell3 0 h0 hg'.out
        have hset := hP6.set3 (P := Tryz.prog) tyRat QC.elem 0 h0 hg'.out (v0 := .bool s6) (v1 := .slice a6 n6 c6) (v2 := .slice d6 k6 e6) (x := ((1 : Int) : Rat)) hu6
        go_upto_region 12 with fail
        obtain ⟨r1, r2⟩ := hset
        obtain ⟨w7, hw7⟩ : ∃ w7, (((w6.setCell ⟨g, o, none⟩ (.bool s6)).setCell ⟨g, o + 1, none⟩ (.slice a6 n6 c6)).setCell ⟨g, o + 2, none⟩ (.slice d6 k6 e6)) = w7 := ⟨_, rfl⟩
        rw [hw7] at r1 r2 |-
        have hE7 := (hE2.then_ t1 (fun _ _ _ => rfl)).own hP6 (Nat.le_refl _) r2
        have hOK := hO.ext RC.elem hE7 (fun k _ hk => hsub k hk) (fun _ _ h => h)
        have htK : TapeR (un X oo) tb w7 := ((ht2.ext t1).extY r2 (fun _ hk => un_right hk) hpt).unX (un_left htX)
        have hFK := hE.trans hE7
        have hXK := hX.ext hFK
        have hpl7 : (p.set 0 ((1 : Int) : Rat)).length = d := by rw [List.length_set]; exact hpl'.out
        have hpB7 : BR 2 (p.set 0 ((1 : Int) : Rat)) := fun q hq' => by
          rcases List.mem_or_eq_of_mem_set hq' with h | rfl
          · exact hpB q h
          · exact Nat.le_trans (hq_int 1 1 (lgI (by omega) (by omega)) (by omega)) (by decide)
        have hpc := r1.lenCap
        rw [hpl7] at hpc
        obtain ⟨r, hr⟩ : ∃ r, p.set 0 ((1 : Int) : Rat) = r := ⟨_, rfl⟩
        rw [hr] at r1 hpl7 hpB7
        have hRC : RC (mk (un X oo) w7) (.slice po d pc) r := ⟨po, pc, by rw [hpl7], by rw [hpl7]; exact hpc, r1.sl QC.elem⟩
        have hp2l := hid hpl7
        have hb7 := hFK.size
        clear hr hpl7 hpc hP ht2 hZ2 hP6 r1 r2 hw7 q0 f0 q1 f1 q2 f2 i1 hu6
        go_wp2_with (at_builtin; refine st_append1n (l := l) slRats rfl RC.elem hb7 hXK j hlk'.out rfl rfl hOK (.slice po d pc) r rfl hRC (by omega) (by omega) ?_; intro oo2 co2 w8 hO8 hE8 hor)
        have hE9 := hFK.own hOK (Nat.le_refl _) hE8
        have ht8 := htK.unstep (hOK.not_ob htX) hE8 hor
        have hl8 : (l ++ [r]).length = j + 1 := by rw [List.length_append, hlk'.out]; rfl
        have hr8 : ∀ x ∈ l ++ [r], x.length = d := fun x hr => by
          rcases List.mem_append.1 hr with h | h
          · exact hrl'.out x h
          · rw [List.mem_singleton.1 h]; exact hp2l.out
        have hB8 : BM 2 (l ++ [r]) := fun x hr => by
          rcases List.mem_append.1 hr with h | h
          · exact hBM'.out x h
          · rw [List.mem_singleton.1 h]; exact hpB7
        go_roundw
        case rel => exact ⟨i, j + 1, oo2, co2, _, by go_num, by go_num, hl8, by omega, hr8, hB8, hO8, ht8, hE9⟩
        case measure => simp [intOf]
    · have hi0 : i = 0 := by omega
      subst hi0
      obtain rfl : j = N := by omega
      clear hij
      have hOs := hO.sl RC.elem
      have hhd := hO.hd
      rw [hlk] at hhd
      obtain ⟨wo, hwo⟩ : ∃ wo, wo = wr := ⟨_, rfl⟩
      subst hwo
      have hfin := hid (fun (wz : World) (vy : Value) (y : List Rat) (hEz : ExtX (tbm tb) wo wz) (htz : TapeR X tb wz) (hy : RV (mk X wz) vy y) (hyl : y.length = j) (hyB : BR 4 y) => (⟨hE.trans hEz, htz, .slice oo j co, vy, l, y, d, rfl, ⟨oo, co, by rw [hlk], hO.lenCap, sl_rv ((hO.ext RC.elem hEz (fun k _ hk => hsub k hk) (fun _ _ h => h)).sl RC.elem) (fun r hr q hq => Nat.le_trans (hBM r hr q hq) (by decide))⟩, hy, by omega, by omega, hdp, hdk, hrl, by rw [hyl, hlk], hBM, hyB⟩ : TDesOut X tb n k w (.returned (.tuple #[.slice oo j co, vy])) wz))
      clear hlk hrl hlt
      go_wp2_with fail
      refine (trow_any (un X oo) tb j wo htr hXu (by omega)).mono ?_
      rintro e w2 ⟨hE2, yo, y, yc, rfl, hyl, hyc, hyB, ht2, hY⟩
      go_wp2_with fail
      refine (tbool_any (un (un X oo) yo) tb 5 w2 ht2 (by decide) (by decide)).mono ?_
      rintro e w3 ⟨hE3, ht3, b, rfl⟩
      have hY3 := hY.ext QC.elem hE3 (fun k _ hk => un_left (hsub k hk)) (fun _ _ h => h)
      have hE23 := hE2.trans hE3
      have hfi2 := hid (fun (wz : World) (z : List Rat) (hEz : ExtX (tbm tb) wo wz) (htz : TapeR (un (un X oo) yo) tb wz) (hz : OL QC 3 (un X oo) wo.heap.size 41 wz yo yc z) (hzl : z.length = j) (hzB : BR 4 z) => hfin.out wz (.slice yo j yc) z hEz ((htz.unX (un_left htX)).unX htX) ⟨yo, yc, by rw [hzl], by rw [hzl]; exact hyc, ((hz.sl QC.elem).mono QC.mono (mk_sub fun k _ hk => un_left hk)).qv fun q hq => Nat.le_trans (hzB q hq) (by decide)⟩ hzl hzB)
      have hyl' := hid hyl
      clear hY ht2 hE2 hE3 hyl
      cases b
      · have hf := hid (hfi2.out w3 y hE23 ht3 hY3 hyl'.out (fun q hq => Nat.le_trans (hyB q hq) (by decide)))
        clear hfin hfi2
        go_wp2_with fail
        go_ret2
        exact hf.out
      · rw [twN_zero y l] at hY3
        clear hfin
        have hobt : ob oo tb = false := hO.not_ob htX
        obtain ⟨fr, hf⟩ := hO.rowsF
        have hrf := hid hf
        clear hf
        go_wp2_with fail
        go_loopw [62] (fun cc wx => ∃ q : Nat, cc = .int .i64 q /\ q <= j /\ OL QC 3 (un X oo) wo.heap.size 41 wx yo yc (twN y l q) /\ TapeR (un (un X oo) yo) tb wx /\ ExtX (tbm tb) wo wx) (fun cc _ => j - (intOf cc).toNat)
        case atStart => exact ⟨0, rfl, Nat.zero_le _, hY3, ht3, hE23⟩
        case round =>
          clear hY3 ht3 hE23
          obtain ⟨q, rfl, hqle, hY, htx, hEx⟩ := hrel
          by_cases hlt : q < j
          · have hql : q < l.length := by rw [hlk'.out]; exact hlt
            have hqy : q < (twN y l q).length := by rw [twN_len, hyl'.out]; exact hlt
            have h1 := (hrf.out q hql).1
            have hrd := hid (hrl'.out _ (List.getElem_mem hql))
            have hrB := hid (hBM'.out _ (List.getElem_mem hql))
            rw [hrd.out] at h1
            have hs1 := (hrf.out q hql).2.2.mono QC.mono (mk_over (Z := un (un X oo) yo) hEx (fun k _ hk => un_left (hsub k hk)) (fun k hk hz => by simpa [un, hY.ob_lt hk] using hz))
            have hx0 : Hid ((l.getD q []).getD 0 0 = l[q][0]'(by rw [hrd.out]; omega)) := hid (by
              have : 0 < l[q].length := by rw [hrd.out]; omega
              simp [List.getD_eq_getElem?_getD, hql, this])
            have hstep := hid (twN_set y l q)
            have h0r : 0 < l[q].length := by rw [hrd.out]; omega
            rw [hx0.out] at hstep
            have hxB : Hid (hq (l[q][0]'h0r) <= 2) := hid (hrB.out _ (List.getElem_mem h0r))
            obtain ⟨⟨aa, ac⟩, hfa⟩ : ∃ z, fr q = z := ⟨_, rfl⟩
            rw [hfa] at h1 hs1
            dsimp only at h1 hs1
            obtain ⟨g1, o1, s1, a1, n1, c1, d1, k1, e1, hg1, hX1, hc1, hq1⟩ := hs1.rat QC.shaped 0 h0r
            obtain ⟨x, hx⟩ : ∃ x, l[q][0]'h0r = x := ⟨_, rfl⟩
            rw [hx] at hstep hxB hq1
            have hha : Hd aa d := by have := hs1.hd; rw [hrd.out] at this; exact this
            have hcr := (hEx.cellY h1 (tbm_ne (ob_adr hhd (by omega) hobt)))
            have hEd : Ext wr wr.drew := (ExtX.refl wr).drew
            have hZ : HX (un (un X oo) yo) wr := hY.unX (hXu.ext hEx)
            have hZd : HX (un (un X oo) yo) wr.drew := hZ.ext hEd
            have hxv := mkx QV.mono (hq1.qv (Nat.le_trans hxB.out (by decide))) hEd
            have h2q : Hid (hq (((2 : Int) : Rat)) <= 1) := hid (hq_int 2 1 (lgI (by omega) (by omega)) (by omega))
            have h2e : Hid (((2 : Int) : Rat) = 2) := hid rfl
            have hmB : Hid (hq (((2 : Int) : Rat) * x) <= 68719476736) := hid (by
              have := hq_mul (((2 : Int) : Rat)) x
              have := h2q.out
              have := hxB.out
              omega)
            have hS : Hid (∀ w', Ext wr.drew w' -> w'.cell? (adr oo q) = some (.slice aa d ac) /\ w'.cell? ⟨g1, o1, none⟩ = some (.bool s1) /\ w'.cell? ⟨g1, o1 + 1, none⟩ = some (.slice a1 n1 c1) /\ w'.cell? ⟨g1, o1 + 2, none⟩ = some (.slice d1 k1 e1)) := hid fun w' h => ⟨(hEd.trans h).cell hcr, hc1.out noY w' (hEd.trans h) rfl⟩
            have hOd := hY.ext0 QC.elem hEd
            obtain ⟨g, o, hg⟩ : ∃ g o, adr yo (q * 3) = ⟨g, o, none⟩ := ⟨_, _, rfl⟩
            have hhy : Hd yo j := by have := hY.hd; rw [twN_len, hyl'.out] at this; exact this
            have i1 : ∀ W, (Instr.indexAt 25 (.slice oo j co) (.int .i64 (q : Int))).run Tryz.prog W = .ok (.pointer (some (adr oo q))) W := run_ix1 slRats oo j co .i64 q hhd hlt rfl
            have i2 : ∀ W, (Instr.indexAt 26 (.slice aa d ac) (.int .i64 0)).run Tryz.prog W = .ok (.pointer (some ⟨g1, o1, none⟩)) W := by rw [<- hg1]; exact run_indexAt_adr slRat aa d ac .i64 0 hha (by omega)
            have i3 : ∀ W, (Instr.indexAt 26 (.slice yo j yc) (.int .i64 (q : Int))).run Tryz.prog W = .ok (.pointer (some ⟨g, o, none⟩)) W := by rw [<- hg]; exact run_indexAt_adr slRat yo j yc .i64 q hhy (by omega)
            have hg' := hid hg
            have hyt : ob yo tb = false := hY.not_ob (un_left htX)
            clear hx hfa h1 hs1 hx0 hcr hc1 hq1 hg hg1 hY hZ
            go_wp2_with fail
            refine wp_region_K 11 (fun w' => w'.cell? (adr oo q) = some (.slice aa d ac) /\ w'.cell? ⟨g1, o1, none⟩ = some (.bool s1) /\ w'.cell? ⟨g1, o1 + 1, none⟩ = some (.slice a1 n1 c1) /\ w'.cell? ⟨g1, o1 + 2, none⟩ = some (.slice d1 k1 e1)) (by kernel_rfl) (by kernel_rfl) (hS.out _ (ExtX.refl _)) (fun hHeld hOnce => ?_)
            refine kt 0 hOnce ?_
            refine kt 1 hOnce ?_
            refine kt 3 hOnce ?_
            refine kt 4 hOnce ?_
            refine kt 5 hOnce ?_
            refine kt 6 hOnce ?_
            refine kt 7 hOnce ?_
            refine kt 8 hOnce ?_
            refine ks 2 (fun K hK => ?_)
            go_simp
            ((with_reducible refine (rqfrom (un (un X oo) yo) wr.drew 2 hZd (by decide) (by decide)).mono ?_); rintro ee w6 ⟨t1, u6, rfl, hu6⟩; obtain ⟨s6, a6, n6, c6, d6, k6, e6, rfl⟩ := hu6.shape)
            refine kcn hK (hS.out _ t1) (fun hHeld => ?_)
            clear hK K
            refine ks 9 (fun K hK => ?_)
            go_simp
            ((with_reducible refine (rqmul (un (un X oo) yo) w6 _ _ ((2 : Int) : Rat) x (hZd.ext t1) (hu6.qv (Nat.le_trans h2q.out (by decide))) (mkx QV.mono hxv t1)).mono ?_); rintro ee w7 ⟨t2, u7, rfl, hu7⟩; obtain ⟨s7, a7, n7, c7, d7, k7, e7, rfl⟩ := hu7.shape)
            refine kcn hK (hS.out _ (t1.trans t2)) (fun hHeld => ?_)
            clear hK K
            have t12 := t1.trans t2
            have hO7 := hOd.ext0 QC.elem t12
            obtain ⟨_, v0, v1, v2, _, ⟨q0, f0⟩, ⟨q1, f1⟩, ⟨q2, f2⟩, _⟩ := hO7.cell3 q hqy hg'.out
            rw [h2e.out] at hu7
            have hset := hO7.set3 (P := Tryz.prog) tyRat QC.elem q hqy hg'.out (v0 := .bool s7) (v1 := .slice a7 n7 c7) (v2 := .slice d7 k7 e7) (x := 2 * x) hu7
            refine kt 10 hOnce ?_
            refine kl 11 (fun K hK => ?_)
            go_simp
            refine hK.out _ _ ?_
            clear hK K
            obtain ⟨r1, r2⟩ := hset
            rw [hstep.out] at r1
            have hE9 := (hEx.then_ (hEd.trans t12) (fun _ _ _ => rfl)).own hO7 (Nat.le_refl _) r2
            have ht9 := (htx.ext (hEd.trans t12)).extY r2 (fun _ hk => un_right hk) hyt
            clear i1 i2 i3 q0 q1 q2 f0 f1 f2
            go_wp2_with fail
            go_roundw
            case rel => exact ⟨q + 1, by go_num, by omega, r1, ht9, hE9⟩
            case measure => simp [intOf]; omega
          · have hqj : q = j := by omega
            have hf := hid (hfi2.out wr _ hEx htx hY (by rw [twN_len]; exact hyl'.out) (twN_br hyB hBM'.out q))
            clear hfi2
            go_wp2_with fail
            go_ret2
            exact hf.out
end Go.Proofs.YtnnpfhoigmegcaaGreat
namespace Go.Proofs.YtnnpfhoigmegcaaGreat
open Go.RowKit Go.Rep Go.Lim
def TSubOut (X : Nat -> Bool) (tb : Nat) (w : World) (n : Nat) (e : Ending) (w' : World) : Prop := ExtX (tbm tb) w w' /\ ∃ (ao : Option Addr) (l : List Int) (cap : Nat), e = .returned (.slice ao l.length cap) /\ l.length <= cap /\ 1 <= l.length /\ l.Pairwise (· < ·) /\ (∀ x ∈ l, 0 <= x /\ x < (n : Int)) /\ TapeR (un X ao) tb w' /\ OL (IntIn .i64) 1 X w.heap.size 3 w' ao cap l
theorem tsubset_any (X : Nat -> Bool) (tb n : Nat) (w : World) (ht : TapeR X tb w) (hX : ∀ k, X k = true -> k < w.heap.size) (h1 : 1 <= n) (hn : n <= 1000) :
    Calls Tryz.prog 45 #[.pointer (some ⟨tb, 0, none⟩), .int .i64 (n : Int)] w (TSubOut X tb w n) := by
  have hsub := tbm_sub ht.1
  go_enter Tryz.func45, Tryz.ntmps45
  go_wp2_with fail
  go_loopw [5, 6] (fun s c wr => ∃ (i : Nat) (ao : Option Addr) (cap : Nat) (l : List Int), c = .int .i64 i /\ s = .slice ao l.length cap /\ l.length <= cap /\ l.length <= i /\ i <= n /\ Hid (l.Pairwise (· < ·) /\ ∀ x ∈ l, 0 <= x /\ x < (i : Int)) /\ OL (IntIn .i64) 1 X w.heap.size 3 wr ao cap l /\ TapeR (un X ao) tb wr /\ ExtX (tbm tb) w wr) (fun _ c _ => n - (intOf c).toNat)
  case atStart => exact ⟨0, none, 0, [], rfl, rfl, Nat.zero_le _, Nat.zero_le _, Nat.zero_le _, hid ⟨List.Pairwise.nil, fun x hx => by simp at hx⟩, OL.nil _ _ _ _ _ _, ht.none, ExtX.refl _⟩
  case round =>
    obtain ⟨i, ao, cap, l, rfl, rfl, hc, hli, hin, hpw, hO, htr, hE⟩ := hrel
    by_cases hlt : i < n
    · go_wp2_with fail
      refine (tbool_any (un X ao) tb 2 _ htr (by omega) (by omega)).mono ?_
      rintro e w2 ⟨hE2, ht2, b, rfl⟩
      have hO2 := hO.ext (IntIn.elem .i64) hE2 (fun k _ hk => hsub k hk) (fun _ _ h => h)
      have hXr : ∀ k, X k = true -> k < w2.heap.size := fun k hk => Nat.lt_of_lt_of_le (hX k hk) (hE.trans hE2).size
      have hE3 := hE.trans hE2
      have hbase := hE3.size
      clear hO htr hE hE2
      cases b
      · have hpw2 : Hid (l.Pairwise (· < ·) /\ ∀ x ∈ l, 0 <= x /\ x < ((i + 1 : Nat) : Int)) := hid ⟨hpw.out.1, fun x hx => by have := hpw.out.2 x hx; omega⟩
        go_wp2_with fail
        go_roundw
        case rel => exact ⟨i + 1, ao, cap, l, by go_num, rfl, hc, by omega, by omega, hpw2, hO2, ht2, hE3⟩
        case measure => simp [intOf]; omega
      · have hpw2 : Hid ((l ++ [(i : Int)]).Pairwise (· < ·) /\ ∀ x ∈ l ++ [(i : Int)], 0 <= x /\ x < ((i + 1 : Nat) : Int)) := hid ⟨List.pairwise_append.2 ⟨hpw.out.1, List.pairwise_singleton _ _, fun a ha b hb => by rw [List.mem_singleton.1 hb]; exact (hpw.out.2 a ha).2⟩, fun x hx => by
          rcases List.mem_append.1 hx with h | h
          · have := hpw.out.2 x h; omega
          · rw [List.mem_singleton.1 h]; omega⟩
        go_wp2_with (at_builtin; refine st_append1 slInt rfl (IntIn.elem .i64) hbase hXr rfl rfl hO2 (.int .i64 i) (i : Int) rfl rfl (by omega) (by omega) ?_; intro ao' cap' w3 hO3 hE4 hor)
        have hE5 := hE3.own hO2 (Nat.le_refl _) hE4
        have ht3 := ht2.unstep (hO2.not_ob ht.1) hE4 hor
        have hc3 := hO3.lenCap
        have hl3 : (l ++ [(i : Int)]).length <= i + 1 := by simp; omega
        go_roundw
        case rel => exact ⟨i + 1, ao', cap', _, by go_num, by rw [List.length_append]; rfl, hc3, hl3, by omega, hpw2, hO3, ht3, hE5⟩
        case measure => simp [intOf]; omega
    · have hbase := hE.size
      have hXr : ∀ k, X k = true -> k < wr.heap.size := fun k hk => Nat.lt_of_lt_of_le (hX k hk) hE.size
      obtain rfl : i = n := by omega
      by_cases h0 : l.length = 0
      · go_wp2_with fail
        refine (next_any (un X ao) tb i _ htr (by omega)).mono ?_
        rintro e w2 ⟨hE2, ht2, m, rfl, hm⟩
        have hXr2 : ∀ k, X k = true -> k < w2.heap.size := fun k hk => Nat.lt_of_lt_of_le (hXr k hk) hE2.size
        have hO2 := (lit_sl X w2 [(m : Int)] 3 _ rfl hXr2 (by simp)).base_le (b' := w.heap.size) (by have := hE2.size; omega)
        go_wp2_with fail
        go_ret
        exact ⟨(hE.trans hE2).alloc _, _, [(m : Int)], _, rfl, by simp, by simp, List.pairwise_singleton _ _, fun x hx => by rw [List.mem_singleton.1 hx]; omega, (ht2.unX ht.1).old ((ExtX.refl _).alloc _) (ob_new _), hO2⟩
      · go_wp2_with fail
        go_ret
        exact ⟨hE, _, l, _, rfl, hc, by omega, hpw.out.1, hpw.out.2, htr, hO⟩
end Go.Proofs.YtnnpfhoigmegcaaGreat
namespace Go.Lin
theorem ent_at {m : Mat} {i j : Nat} (hi : i < m.length) (hj : j < m[i].length) : m[i][j] = ent m i j := by
  unfold ent
  rw [show m.getD i [] = m[i] by simp [List.getD_eq_getElem?_getD, hi], List.getD_eq_getElem?_getD, List.getElem?_eq_getElem hj]; rfl
theorem colsL_shp {m : Mat} {n c : Nat} (h : Shp n c m) (hc : n = 0 -> c = 0) : colsL m = c := by
  by_cases hn : 0 < n
  · have h0 : 0 < m.length := by rw [h.1]; exact hn
    rw [colsL_pos h0]; exact h.2 _ (List.getElem_mem _)
  · have : m = [] := List.eq_nil_of_length_eq_zero (by rw [h.1]; omega)
    subst this; rw [hc (by omega)]; rfl
end Go.Lin
namespace Go.Proofs.YtnnpfhoigmegcaaGreat
open Go.RowKit Go.Rep Go.Lim Go.Lin
theorem rcolumns {R : Mem -> Value -> Rat -> Prop} (X : Nat -> Bool) (w : World) (u : Value) (m : List (List Rat)) (hu : SlV (SlV R 3) 1 (mk X w) u m) : Calls Tryz.prog 238 #[u] w (fun e w' => w' = w /\ e = .returned (.int .i64 (colsL m : Int))) := by
  obtain ⟨ao, ca, rfl, hca, hsa⟩ := hu
  have hha := hsa.hd
  by_cases h : 0 < m.length
  · obtain ⟨a1, c1, hX1, hc1, hcl1, hq1⟩ := hsa.row 0 h
    have k00 := hc1.out noY w (ExtX.refl _) rfl
    have hc := hid (colsL_pos h)
    have hI : ((m.length : Int) == 0) = false := beqF (by omega)
    go_enter Tryz.func238, Tryz.ntmps238
    go_wp2_with (with_reducible refine up_ix1 slRats (by omega) (by assumption) ?_)
    go_ret
    exact ⟨rfl, ret_int (by rw [hc.out])⟩
  · have hc : Hid (colsL m = 0) := hid (by
      have : m = [] := List.eq_nil_of_length_eq_zero (by omega)
      subst this; rfl)
    have hI : ((m.length : Int) == 0) = true := beqT (by omega)
    go_enter Tryz.func238, Tryz.ntmps238
    go_wp2_with (with_reducible refine up_ix1 slRats (by omega) (by assumption) ?_)
    go_ret
    exact ⟨rfl, ret_int (by rw [hc.out]; rfl)⟩
set_option maxRecDepth 100000 in
theorem rformed {R : Mem -> Value -> Rat -> Prop} (hR : Mono R) (X : Nat -> Bool) (w : World) (u : Value) (m : List (List Rat)) (hu : SlV (SlV R 3) 1 (mk X w) u m) (hl : m.length <= 1099511627776) : Calls Tryz.prog 208 #[u] w (BOut w (formedB m)) := by
  obtain ⟨ao, ca, rfl, hca, hsa⟩ := hu
  have hha := hsa.hd
  by_cases h96 : 96 < m.length
  · have hv : Hid (false = formedB m) := hid (by
      symm
      cases hf : formedB m
      · rfl
      · have := (formedB_true.1 hf).1; omega)
    have hI : (96 : Int) < (m.length : Int) := by omega
    go_enter Tryz.func208, Tryz.ntmps208
    go_wp2_with fail
    go_ret
    exact ⟨ExtX.refl _, ret_bool hv.out⟩
  · have hI : ¬ (96 : Int) < (m.length : Int) := by omega
    obtain ⟨n, hn⟩ : ∃ n, m.length = n := ⟨_, rfl⟩
    have hn' := hid hn
    have hn6 : n <= 96 := by omega
    rw [hn] at hha hI |-
    clear hn hl h96 hca
    go_enter Tryz.func208, Tryz.ntmps208
    go_wp2_with fail
    go_loopw [3] (fun c wr => ∃ (i : Nat), c = .int .i64 i /\ i <= n /\ Hid (∀ q, q < i -> ∀ hq : q < m.length, 1 <= m[q].length /\ m[q].length <= 96 /\ m[q].length = colsL m) /\ Ext w wr) (fun c _ => n - (intOf c).toNat)
    case atStart => exact ⟨0, rfl, Nat.zero_le _, hid (fun q hq => by omega), ExtX.refl _⟩
    case round =>
      obtain ⟨i, rfl, hi, hok, hE⟩ := hrel
      by_cases hlt : i < n
      · have hil : i < m.length := by rw [hn'.out]; exact hlt
        have h0 : 0 < m.length := by omega
        have hsr := hsa.mono (SlV.mono hR 3) (mk_ext hE)
        obtain ⟨a1, c1, hX1, hc1, hcl1, hq1⟩ := hsr.row i hil
        obtain ⟨a2, c2, hX2, hc2, hcl2, hq2⟩ := hsr.row 0 h0
        have k00 := hc1.out noY wr (ExtX.refl _) rfl
        have k10 := hc2.out noY wr (ExtX.refl _) rfl
        have i1 : ∀ W, (Instr.indexAt 25 (.slice ao n ca) (.int .i64 (i : Int))).run Tryz.prog W = .ok (.pointer (some (adr ao i))) W := run_ix1 slRats ao n ca .i64 i hha (by omega) rfl
        have i0 : ∀ W, (Instr.indexAt 25 (.slice ao n ca) (.int .i64 0)).run Tryz.prog W = .ok (.pointer (some (adr ao 0))) W := run_ix1 slRats ao n ca .i64 0 hha (by omega) rfl
        have hcol := colsL_pos h0
        have hno := hid (formedB_false i hil)
        rw [<- hcol] at k10
        obtain ⟨x, hx⟩ : ∃ x, m[i].length = x := ⟨_, rfl⟩
        obtain ⟨y, hy⟩ : ∃ y, colsL m = y := ⟨_, rfl⟩
        rw [hx] at k00 hno
        rw [hy] at k10 hno
        have hst : Hid (1 <= x /\ x <= 96 /\ x = y -> ∀ hq : i < m.length, 1 <= m[i].length /\ m[i].length <= 96 /\ m[i].length = colsL m) := hid fun h hq => by rw [hx, hy]; exact h
        clear hx hy hcol hc1 hc2 hq1 hq2 hcl1 hcl2 h0 hil
        by_cases hx0 : x = 0
        · have d0 : decide ((x : Int) < 1) = true := decide_eq_true (by omega)
          have hv := hid (hno.out (by omega))
          clear hx0 hno hst
          go_wp2_with fail
          go_region
          all_goals
            clear k00 k10 i1 i0
            go_wp2_with fail
            go_ret
            exact ⟨hE.trans (ExtX.refl wr).drew, ret_bool hv.out⟩
        · have d0 : decide ((x : Int) < 1) = false := decide_eq_false (by omega)
          by_cases hx1 : 96 < x
          · have d1 : decide ((96 : Int) < (x : Int)) = true := decide_eq_true (by omega)
            have hv := hid (hno.out (by omega))
            clear hx0 hno hst
            go_wp2_with fail
            go_region
            all_goals
              clear k00 k10 i1 i0
              go_wp2_with fail
              go_ret
              exact ⟨hE.trans (ExtX.refl wr).drew, ret_bool hv.out⟩
          · have d1 : decide ((96 : Int) < (x : Int)) = false := decide_eq_false (by omega)
            by_cases hxy : x = y
            · have d2 : ((x : Int) != (y : Int)) = false := bneF (by omega)
              have hst2 := hid (hst.out ⟨by omega, by omega, hxy⟩)
              clear hx0 hxy hno hst hx1
              go_wp2_with fail
              go_region
              all_goals
                clear k00 k10 i1 i0
                go_wp2_with fail
                go_roundw
                case rel => exact ⟨i + 1, by go_num, by omega, hid (upto_succ hok.out hst2.out), hE.trans (ExtX.refl wr).drew⟩
                case measure => simp [intOf]; omega
            · have d2 : ((x : Int) != (y : Int)) = true := bneT (by omega)
              have hv := hid (hno.out (by omega))
              clear hx0 hxy hno hst hx1
              go_wp2_with fail
              go_region
              all_goals
                clear k00 k10 i1 i0
                go_wp2_with fail
                go_ret
                exact ⟨hE.trans (ExtX.refl wr).drew, ret_bool hv.out⟩
      · have hv : Hid (true = formedB m) := hid (by
          symm
          exact formedB_true.2 ⟨by rw [hn'.out]; omega, fun q hq => hok.out q (by rw [hn'.out] at hq; omega) hq⟩)
        go_wp2_with fail
        go_ret
        exact ⟨hE, ret_bool hv.out⟩
end Go.Proofs.YtnnpfhoigmegcaaGreat
namespace Go.Proofs.YtnnpfhoigmegcaaGreat
open Go.RowKit Go.Rep Go.Lim Go.Lin
attribute [local go_sem ↓] Go.wp_at_zero Go.wp_at_succ
def RedOut (X : Nat -> Bool) (w : World) (S : Sr) (e : Ending) (w' : World) : Prop := Ext w w' /\ ∃ oo co po pc uf, e = .returned (.tuple #[.slice oo S.1.length co, .slice po S.2.1.length pc, uf]) /\ S.1.length <= co /\ S.2.1.length <= pc /\ Sl RC 1 (mk X w') oo S.1 /\ Sl (NatIn .i64) 1 (mk X w') po S.2.1 /\ QC (mk X w') uf S.2.2
set_option maxRecDepth 100000 in
set_option maxHeartbeats 1600000 in
theorem rreduce_any (X : Nat -> Bool) (w : World) (u : Value) (m : List (List Rat)) (n c : Nat) (hX : HX X w) (hu : MV (mk X w) u m) (hsh : Shp n c m) (hc : colsL m = c) (hn : n <= 900) (hcc : c <= 900) (hT : TameR m c) : Calls Tryz.prog 209 #[u] w (RedOut X w (rN m c)) := by
  obtain ⟨W, hW, hEW, b0, hz⟩ := boxes1 w #[.bool false, .slice none 0 0, .slice none 0 0] 41
  have hX1 : HX (hidB X w.heap.size 1) W := hX.boxes hz
  have hu1 : MV (mk (hidB X w.heap.size 1) W) u m := MV.mono _ _ _ _ (le_boxes hEW) hu
  have htk := rmtakeO (hidB X w.heap.size 1) W u m hX1 hu1 (by rw [hsh.1]; omega) (fun r hr => by rw [hsh.2 r hr]; omega)
  have hml := hid hsh.1
  have hsh' := hid hsh
  have hn0 : Hid (n = 0 -> c = 0) := hid fun h => by
    have : m = [] := List.eq_nil_of_length_eq_zero (by rw [hml.out]; exact h)
    rw [<- hc, this]; rfl
  obtain ⟨B, hB6, hBj⟩ := hT
  have hBj' := hid hBj
  have hB6' := hid hB6
  have hunb : Hid (∀ w', Le (mk (hidB X w.heap.size 1) w') (mk X w')) := hid fun w' => le_unbox
  have hrb : Hid (hidB X w.heap.size 1 w.heap.size = true) := hid (hidB_in (Nat.le_refl _) (by omega))
  obtain ⟨X1, hX1e⟩ : ∃ X1, hidB X w.heap.size 1 = X1 := ⟨_, rfl⟩
  obtain ⟨b, hb⟩ : ∃ b, w.heap.size = b := ⟨_, rfl⟩
  rw [hX1e] at hX1 htk hunb hrb
  rw [hb] at b0 hrb
  have hbW : W.heap.size = b + 1 := by rw [<- hb]; exact hz
  have hbw' : Hid (w.heap.size = b) := hid hb
  clear hu hu1 hX1e hz hb hsh hBj hB6
  go_enter Tryz.func209, Tryz.ntmps209
  go_wp2_with fail
  refine htk.mono ?_
  rintro e w1 ⟨hE1, oo, co, rfl, hO1⟩
  have hXu1 : HX (un X1 oo) w1 := hO1.unX (hX1.ext hE1)
  clear hW
  rw [hml.out]
  go_wp2_with fail
  refine (rqfrom (un X1 oo) w1 1 hXu1 (by decide) (by decide)).mono ?_
  rintro e w2 ⟨hE2, u2, rfl, hu2⟩
  obtain ⟨s2, a2, n2, c2, d2, k2, e2, rfl⟩ := hu2.shape
  have bf := Bx.new w2 #[.bool false, .slice none 0 0, .slice none 0 0] 41
  go_wp2_with ((with_reducible show wpList _ _ _ (⟨_, .store _ _ _, _, _, _, _⟩ :: _) _ _); refine st_storeBox stRat rfl rfl bf rfl rfl (one3 _ _ _ _ _ _ _) ?_; intro w3 r1 r2)
  have hE3 : Ext w2 w3 := ExtX.box ((ExtX.refl w2).alloc _) r2 (Nat.le_refl _)
  have hO2 := hO1.ext0 RC.elem hE2
  have hob2 : ∀ k, ob oo k = true -> k < w2.heap.size := fun k hk => (hO2.block hk).2
  obtain ⟨fb, hfb⟩ : ∃ fb, w2.heap.size = fb := ⟨_, rfl⟩
  obtain ⟨base, hbase⟩ : ∃ base, W.heap.size = base := ⟨_, rfl⟩
  have hs1 := hE1.size
  have hs2 := hE2.size
  have hR0 : RS X1 w b fb base 26 41 3 w3 oo co none 0 m [] 1 := by
    subst hfb hbase
    refine ⟨hO2.ext RC.elem hE3 (fun k _ h => by simp [noY] at h) (fun k hk hz => ?_), OL.nil _ _ _ _ _ _, ⟨s2, a2, n2, c2, d2, k2, e2, r1, QC.mono _ _ _ _ (mk_over hE3 (fun k _ h => by simp [noY] at h) fun k hk hz => ?_) hu2⟩, hX1.ext (hE1.trans (hE2.trans hE3)), b0.ext0 (hE1.trans (hE2.trans hE3)), hrb.out, ?_, hEW.trans (hE1.trans (hE2.trans hE3)), ?_, ?_⟩
    · by_cases h : X1 k = true
      · exact h
      · have h' : X1 k = false := by simpa using h
        have : w2.heap.size = k := by simpa [un, hidF, ob, h'] using hz
        omega
    · by_cases h : un X1 oo k = true
      · exact h
      · have h' : un X1 oo k = false := by simpa using h
        obtain ⟨h1, h2⟩ := un_false h'
        have e1 : ob (none : Option Addr) k = false := rfl
        have e2 : ob (some ⟨w2.heap.size, 0, none⟩) k = (w2.heap.size == k) := rfl
        have : w2.heap.size = k := by simpa [un, hidZ, hidF, h1, h2, e1, e2] using hz
        omega
    · omega
    · have := hEW.size; omega
    · have := hEW.size; omega
  have hcap : n <= co := by have := hO1.lenCap; rw [hml.out] at this; exact this
  have hhO : Hd oo n := by have := hO1.hd; rw [hml.out] at this; exact this
  rw [hfb, hbw'.out]
  clear hO1 hO2 hob2 hu2 bf r1 r2 hE1 hE2 hE3 hs1 hs2 htk b0 hX1 hXu1 hEW hfb hbase hbW
  go_loopg [5, 7] c (fun g p k wr => ∃ (j : Nat) (po : Option Addr) (pc pl : Nat) (M : Mat) (P : List Nat) (f : Rat), k = .int .i64 j /\ p = .slice po pl pc /\ j + g = c /\ Hid (P.length = pl) /\ Hid (rN m j = (M, P, f)) /\ RS X1 w b fb base 26 41 3 wr oo co po pc M P f)
  case atStart => exact ⟨0, none, 0, 0, m, [], 1, rfl, rfl, by omega, hid rfl, hid rfl, hR0⟩
  case round =>
    obtain ⟨j, po, pc, pl, M, P, f, rfl, rfl, hj, hpl, hst, hR⟩ := hrel
    have hok := rN_ok hsh'.out j
    rw [hst.out] at hok
    have hM := hid hok.shp
    have hMl : Hid (M.length = n) := hid hM.out.1
    have hpn : pl <= n := by have h1 : P.length <= n := hok.ref.le; rw [hpl.out] at h1; exact h1
    have hBM := hid (hBj'.out j (by omega))
    rw [hst.out] at hBM
    have hcolM : colsL M = c := colsL_shp hM.out hn0.out
    have hco := rcolumns (R := QC) (un (hidF X1 fb) po) wr (.slice oo n co) M ⟨oo, co, by rw [hMl.out], by rw [hMl.out]; exact hcap, hR.rows.sl RC.elem⟩
    rw [hcolM] at hco
    clear hok hcolM
    by_cases hlj : j < c
    · go_wp2_with fail
      refine hco.mono ?_
      rintro e w2 ⟨rfl, rfl⟩
      clear hco
      go_wp2_with fail
      go_loopw [9] (fun a wx => ∃ (t : Nat), a = .int .i64 t /\ pl <= t /\ t <= n /\ Hid (∀ i, pl <= i -> i < t -> ent M i j = 0) /\ RS X1 w b fb base 26 41 3 wx oo co po pc M P f) (fun a _ => n - (intOf a).toNat)
      case atStart => exact ⟨pl, rfl, Nat.le_refl _, hpn, hid (fun i h1 h2 => by omega), hR⟩
      case round =>
        clear hR
        obtain ⟨t, rfl, htl, htn, hzz, hR⟩ := hrel
        by_cases htt : t < n
        · have htM : t < M.length := by rw [hMl.out]; exact htt
          obtain ⟨a1, c1, k00, f00, hcl1, hq1⟩ := hR.row t htM
          have hrl : Hid (M[t].length = c) := hid (hM.out.2 _ (List.getElem_mem _))
          have hjr : j < M[t].length := by rw [hrl.out]; exact hlj
          have hei := hid (ent_at htM hjr)
          rw [hrl.out] at k00 hcl1
          have hh1 : Hd a1 c := by have := hq1.hd; rw [hrl.out] at this; exact this
          have hxB := hid (hBM.out.1 t j)
          have hZr := hR.hz
          obtain ⟨g9, o9, s5, a5, n5, c5, d5, k5, e5, hg9, hX9, hc9, hu5⟩ := hq1.rat QC.shaped j hjr
          rw [hei.out] at hu5
          obtain ⟨x, hx⟩ : ∃ x, ent M t j = x := ⟨_, rfl⟩
          rw [hx] at hei hxB hu5
          have hx' := hid hx
          obtain ⟨k10, k11, k12⟩ := hc9.out noY wr (ExtX.refl _) rfl
          have i1 : ∀ W, (Instr.indexAt 25 (.slice oo n co) (.int .i64 (t : Int))).run Tryz.prog W = .ok (.pointer (some (adr oo t))) W := run_ix1 slRats oo n co .i64 t hhO (by omega) rfl
          have i2 : ∀ W, (Instr.indexAt 26 (.slice a1 c c1) (.int .i64 (j : Int))).run Tryz.prog W = .ok (.pointer (some ⟨g9, o9, none⟩)) W := by rw [<- hg9]; exact run_indexAt_adr slRat a1 c c1 .i64 j hh1 (by omega)
          clear hx f00 hc9 hg9 hX9
          by_cases h0 : x = 0
          · have hs0 : (x.num.sign == (0 : Int)) = true := by rw [h0]; rfl
            have hzz2 : Hid (∀ i, pl <= i -> i < t + 1 -> ent M i j = 0) := hid fun i h1 h2 => by
              by_cases e : i = t
              · subst e; rw [hx'.out]; exact h0
              · exact hzz.out i h1 (by omega)
            clear h0
            go_wp2_with fail
            refine (rqsign (hidZ X1 fb po oo) wr _ x hZr (hu5.qv (by have := hxB.out; have := hB6'.out; omega))).mono ?_
            rintro e w5 ⟨hE5, rfl⟩
            have hR5 := hR.ext0 hE5
            clear k00 k10 k11 k12 i1 i2
            go_wp2_with fail
            go_roundw
            case rel => exact ⟨t + 1, by go_num, by omega, by omega, hzz2, hR5⟩
            case measure => simp [intOf]; omega
          · have hs0 : (x.num.sign == (0 : Int)) = false := beqF (by intro h; exact h0 (Rat.num_eq_zero.1 (Int.sign_eq_zero_iff_zero.1 h)))
            have hx0 := hid h0
            have hne : ((t : Int) == (n : Int)) = false := beqF (by omega)
            clear h0
            go_wp2_with fail
            refine (rqsign (hidZ X1 fb po oo) wr _ x hZr (hu5.qv (by have := hxB.out; have := hB6'.out; omega))).mono ?_
            rintro e w5 ⟨hE5, rfl⟩
            have hR5 := hR.ext0 hE5
            clear k00 k10 k11 k12 i1 i2 hR hE5 hZr hq1 hu5 hh1
            go_upto_if 46 with (fail)
            have hplM : pl < M.length := by rw [hMl.out]; omega
            have hpn2 : pl < n := by omega
            have hsw := hid (swapL_set htM hplM)
            have hpiv : Hid (rN m (j + 1) = (out (pv (swapL M t pl) pl j) pl j n, P ++ [j], (if t - pl = 0 then f else - f) * ent (swapL M t pl) pl j)) := hid (by
              have e1 : pl + (t - pl) = t := by omega
              have := rN_piv hsh'.out hst.out hpl.out (a := t - pl) (by rw [e1]; exact hzz.out) (by omega) (by rw [e1, hx'.out]; exact hx0.out)
              rw [e1] at this; exact this)
            have hM1s := hid (hM.out.swap htt hpn2)
            have hB1s := hid (hBM.out.1.swap hM.out htt hpn2)
            have hp1 : Hid (ent (swapL M t pl) pl j ≠ 0) := hid (by rw [ent_swap hM.out htt hpn2, if_pos rfl, hx'.out]; exact hx0.out)
            have hfB := hid hBM.out.2
            clear hs0 hne hxB hx0 hei hcl1
            go_cut [] from 14 to 122 (fun wx => ∃ f1, Hid (f1 = if t - pl = 0 then f else - f) /\ RS X1 w b fb base 26 41 3 wx oo co po pc (swapL M t pl) P f1)
            case first =>
              by_cases htp : t = pl
              · have hne2 : ((t : Int) != (pl : Int)) = false := bneF (by omega)
                have hRs : RS X1 w b fb base 26 41 3 w5 oo co po pc (swapL M t pl) P f := by rw [htp, swapL_self M pl hplM]; exact hR5
                have hff : Hid (f = if t - pl = 0 then f else - f) := hid (if_pos (by omega)).symm
                clear htp hR5
                go_wp2_with fail
                go_meet
                case rel => exact ⟨f, hff, hRs⟩
              · have hne2 : ((t : Int) != (pl : Int)) = true := bneT (by omega)
                have hff : Hid (- f = if t - pl = 0 then f else - f) := hid (if_neg (by omega)).symm
                obtain ⟨ap, cp, y1, fy1, hclp, hqp⟩ := hR5.row pl hplM
                obtain ⟨ax, cx, y2, fy2, hclx, hqx⟩ := hR5.row t htM
                obtain ⟨hO1, hE1⟩ := hR5.rows.set1 tyRats RC.elem SlV.one t htM (.slice ap M[pl].length cp) M[pl] ⟨ap, cp, rfl, hclp, hqp⟩
                obtain ⟨u3, k3, f3, hu3⟩ := hO1.cell SlV.one pl (by simpa using hplM)
                obtain ⟨hO2, hE2⟩ := hO1.set1 tyRats RC.elem SlV.one pl (by simpa using hplM) (.slice ax M[t].length cx) M[t] ⟨ax, cx, rfl, hclx, hqx.mono QC.mono (mk_mono hE1 fun k hk => un_right hk)⟩
                have hE6 := (hE1.trans hE2).drew
                have hO2 := hO2.ext0 RC.elem (ExtX.refl (Y := noY) _).drew
                rw [hsw.out] at hO2
                have hR6 := hR5.setRows hE6 hO2
                have i1 : ∀ W, (Instr.indexAt 25 (.slice oo n co) (.int .i64 (t : Int))).run Tryz.prog W = .ok (.pointer (some (adr oo t))) W := run_ix1 slRats oo n co .i64 t hhO (by omega) rfl
                have i2 : ∀ W, (Instr.indexAt 25 (.slice oo n co) (.int .i64 (pl : Int))).run Tryz.prog W = .ok (.pointer (some (adr oo pl))) W := run_ix1 slRats oo n co .i64 pl hhO (by omega) rfl
                clear htp hu3 hO1 hO2 hE1 hE2 hR5 hqp hqx
                go_wp2_with fail
                go_region
                obtain ⟨w6, hw6⟩ : ∃ w6, ((w5.setCell (adr oo t) (.slice ap M[pl].length cp)).setCell (adr oo pl) (.slice ax M[t].length cx)).drew = w6 := ⟨_, rfl⟩
                rw [hw6] at hR6 |-
                obtain ⟨sf, af, nf, cf, df, kf, ef, bF, hqF⟩ := hR6.fac
                have z0 := bF.cell 0 rfl
                have z1 := bF.cell 1 rfl
                have z2 := bF.cell 2 rfl
                have hZ6 := hR6.hz
                clear y1 y2 fy1 fy2 k3 f3 i1 i2 hw6 hE6
                go_wp2_with fail
                refine (rqneg (hidZ X1 fb po oo) w6 _ f hZ6 (hqF.qv (by have := hfB.out; have := hB6'.out; omega))).mono ?_
                rintro e w7 ⟨hE7, u7, rfl, hu7⟩
                obtain ⟨s7, a7, n7, c7, d7, k7, e7, rfl⟩ := hu7.shape
                have bF7 := bF.ext0 hE7
                have hR7 := hR6.ext0 hE7
                clear z0 z1 z2 bF
                go_wp2_with ((with_reducible show wpList _ _ _ (⟨_, .store _ _ _, _, _, _, _⟩ :: _) _ _); refine st_storeBox stRat rfl rfl bF7 rfl rfl (one3 _ _ _ _ _ _ _) ?_; intro w8 r1 r2)
                have hR8 := hR7.setFac r2 r1 (QC.mono _ _ _ _ (mk_mono r2 fun k hk => un_left (un_left (un_right hk))) hu7)
                go_meet
                case rel => exact ⟨- f, hff, hR8⟩
            case rest =>
              obtain ⟨f1, hf1, hR1⟩ := hcut
              rw [<- hf1.out] at hpiv
              have hf1B : Hid (hq f1 <= B) := hid (by rw [hf1.out]; split; exact hfB.out; rw [hq_neg]; exact hfB.out)
              obtain ⟨w6, hw6⟩ : ∃ w6, w6 = wc := ⟨_, rfl⟩
              subst hw6
              obtain ⟨M1, hM1e⟩ : ∃ M1, swapL M t pl = M1 := ⟨_, rfl⟩
              rw [hM1e] at hpiv hM1s hB1s hp1 hR1
              have hM1l : Hid (M1.length = n) := hid hM1s.out.1
              have hpM1 : pl < M1.length := by rw [hM1l.out]; exact hpn2
              have hrl1 : Hid (M1[pl].length = c) := hid (hM1s.out.2 _ (List.getElem_mem _))
              have hjp : j < M1[pl].length := by rw [hrl1.out]; exact hlj
              have hei := hid (ent_at hpM1 hjp)
              have hxB := hid (hB1s.out pl j)
              have hpe : Hid (M1.getD pl [] = M1[pl]) := hid (getD_row' hpM1)
              obtain ⟨y, hy⟩ : ∃ y, ent M1 pl j = y := ⟨_, rfl⟩
              have hpvd : Hid (pv M1 pl j = M1.set pl (M1[pl].map (· * (((1 : Int) : Rat) / y)))) := hid (by unfold pv; rw [hpe.out, hy]; rfl)
              rw [hy] at hei hxB hp1 hpiv
              have hM2s := hid (hM1s.out.pv hpn2 j)
              have hB2s := hid (hB1s.out.pv hM1s.out hpn2 j)
              have hrowB : Hid (BR B M1[pl]) := hid (hb_bm hB1s.out _ (List.getElem_mem _))
              have i1 : ∀ W, (Instr.indexAt 25 (.slice oo n co) (.int .i64 (pl : Int))).run Tryz.prog W = .ok (.pointer (some (adr oo pl))) W := run_ix1 slRats oo n co .i64 pl hhO (by omega) rfl
              have hEd : Ext w6 w6.drew := (ExtX.refl w6).drew
              clear hR5 hM1e hy hx' hsw
              go_upto_region 15 with (fail)
              go_cut [] from 14 to 122 (fun wx => RS X1 w b fb base 26 41 3 wx oo co po pc M1 P (f1 * y))
              case first =>
                obtain ⟨ap, cp, y1, fy1, hclp, hqp⟩ := hR1.row pl hpM1
                obtain ⟨g, o, s5, a5, n5, c5, d5, k5, e5, hg, hXg, hcg, hqg⟩ := hqp.rat QC.shaped j hjp
                obtain ⟨sf, af, nf, cf, df, kf, ef, bF, hqF⟩ := hR1.fac
                rw [hei.out] at hqg
                rw [hrl1.out] at y1 hclp
                have hhp : Hd ap c := by have := hqp.hd; rw [hrl1.out] at this; exact this
                have i2 : ∀ W, (Instr.indexAt 26 (.slice ap c cp) (.int .i64 (j : Int))).run Tryz.prog W = .ok (.pointer (some ⟨g, o, none⟩)) W := by rw [<- hg]; exact run_indexAt_adr slRat ap c cp .i64 j hhp (by omega)
                have bFd := bF.ext0 hEd
                have z0 := bFd.cell 0 rfl
                have z1 := bFd.cell 1 rfl
                have z2 := bFd.cell 2 rfl
                obtain ⟨k0, k1, k2⟩ := hcg.out noY w6.drew hEd rfl
                have y1d : w6.drew.cell? (adr oo pl) = some (.slice ap c cp) := y1
                have hRd := hR1.ext0 hEd
                have hZd := hRd.hz
                have hqFv : QV (mk (hidZ X1 fb po oo) w6.drew) (.agg #[.bool sf, .slice af nf cf, .slice df kf ef]) f1 := hqF.qv (by have := hf1B.out; have := hB6'.out; omega)
                have hqgv : QV (mk (hidZ X1 fb po oo) w6.drew) (.agg #[.bool s5, .slice a5 n5 c5, .slice d5 k5 e5]) y := hqg.qv (by have := hxB.out; have := hB6'.out; omega)
                clear hqp hg hcg hR1 y1 fy1 bF
                go_wp2_with fail
                go_region_with ((go_at_call 49; (with_reducible refine (rqmul (hidZ X1 fb po oo) w6.drew _ _ f1 y hZd hqFv hqgv).mono ?_); rintro ee w7 ⟨t1, u7, rfl, hu7⟩; obtain ⟨s7, a7, n7, c7, d7, k7, e7, rfl⟩ := hu7.shape; have bF7 := bFd.ext0 t1; have g0 := bF7.cell 0 rfl; have g1 := bF7.cell 1 rfl; have g2 := bF7.cell 2 rfl; have h0 := bF7.frozen 0; have h1 := bF7.frozen 1; have h2 := bF7.frozen 2))
                all_goals
                  obtain ⟨q1, q2⟩ := bF7.set3 (.bool s7) (.slice a7 n7 c7) (.slice d7 k7 e7)
                  have hR8 := (hRd.ext0 t1).setFac q2 q1 (QC.mono _ _ _ _ (mk_mono q2 fun k hk => un_left (un_left (un_right hk))) hu7)
                  clear z0 z1 z2 k0 k1 k2 y1d g0 g1 g2 h0 h1 h2 i2
                  go_wp2_with fail
                  go_meet
                  case rel => exact hR8
              case rest =>
                have hf2B : Hid (hq (f1 * y) <= 2 * B) := hid (by have := hq_mul f1 y; have := hf1B.out; have := hxB.out; omega)
                obtain ⟨f2, hf2⟩ : ∃ f2, f1 * y = f2 := ⟨_, rfl⟩
                rw [hf2] at hf2B hcut hpiv
                clear hR1 hEd hf2
                obtain ⟨w7, hw7⟩ : ∃ w7, w7 = wc := ⟨_, rfl⟩
                subst hw7
                have hR2 := hcut
                have hEd : Ext w7 w7.drew := (ExtX.refl w7).drew
                clear hcut
                go_upto_region 16 with (fail)
                go_cut [] from 14 to 122 (fun wx => RS X1 w b fb base 26 41 3 wx oo co po pc (pv M1 pl j) P f2)
                case first =>
                  obtain ⟨ap, cp, y1, fy1, hclp, hqp⟩ := hR2.row pl hpM1
                  obtain ⟨g, o, s5, a5, n5, c5, d5, k5, e5, hg, hXg, hcg, hqg⟩ := hqp.rat QC.shaped j hjp
                  rw [hei.out] at hqg
                  have hhp : Hd ap c := by have := hqp.hd; rw [hrl1.out] at this; exact this
                  have i2 : ∀ W, (Instr.indexAt 26 (.slice ap c cp) (.int .i64 (j : Int))).run Tryz.prog W = .ok (.pointer (some ⟨g, o, none⟩)) W := by rw [<- hg]; exact run_indexAt_adr slRat ap c cp .i64 j hhp (by omega)
                  have hrp : RV (mk (hidZ X1 fb po oo) w7.drew) (.slice ap c cp) M1[pl] := by
                    rw [<- hrl1.out]
                    exact ⟨ap, cp, rfl, hclp, hqp.qv fun q hq => Nat.le_trans (hrowB.out q hq) (by have := hB6'.out; omega)⟩
                  rw [hrl1.out] at y1 hclp
                  have hS : Hid (∀ W', Ext w7.drew W' -> W'.cell? (adr oo pl) = some (.slice ap c cp) /\ W'.cell? ⟨g, o, none⟩ = some (.bool s5) /\ W'.cell? ⟨g, o + 1, none⟩ = some (.slice a5 n5 c5) /\ W'.cell? ⟨g, o + 2, none⟩ = some (.slice d5 k5 e5)) := hid fun W' h => by
                    obtain ⟨k0, k1, k2⟩ := hcg.out noY W' (hEd.trans h) rfl
                    exact ⟨(hEd.trans h).cell y1, k0, k1, k2⟩
                  obtain ⟨y1d, k0, k1, k2⟩ := hS.out w7.drew (ExtX.refl _)
                  have hRd := hR2.ext0 hEd
                  have hZd := hRd.hz
                  have hqgv : QV (mk (hidZ X1 fb po oo) w7.drew) (.agg #[.bool s5, .slice a5 n5 c5, .slice d5 k5 e5]) y := hqg.qv (by have := hxB.out; have := hB6'.out; omega)
                  have h1q : Hid (hq (((1 : Int) : Rat)) <= 68719476736) := hid (by decide +kernel)
                  have hqb : Hid (hq (((1 : Int) : Rat) / y) <= 68719476736) := hid (by have h3 := hq_div ((1 : Int) : Rat) y; have h4 : hq (((1 : Int) : Rat)) = 1 := (by decide +kernel); have := hxB.out; have := hB6'.out; have := hq_pos y; omega)
                  have hrl3 : Hid (M1[pl].length <= 1000000) := hid (by rw [hrl1.out]; omega)
                  clear hqp hg hcg hR2 y1 fy1
                  go_wp2_with fail
                  refine wp_region_K 17 (fun w' => w'.cell? (adr oo pl) = some (.slice ap c cp) /\ w'.cell? ⟨g, o, none⟩ = some (.bool s5) /\ w'.cell? ⟨g, o + 1, none⟩ = some (.slice a5 n5 c5) /\ w'.cell? ⟨g, o + 2, none⟩ = some (.slice d5 k5 e5)) (by kernel_rfl) (by kernel_rfl) (hS.out _ (ExtX.refl _)) (fun hHeld hOnce => ?_)
                  clear y1d k0 k1 k2
                  refine kt 0 hOnce ?_
                  refine kt 1 hOnce ?_
                  refine kt 2 hOnce ?_
                  refine kt 3 hOnce ?_
                  refine kt 4 hOnce ?_
                  refine kt 5 hOnce ?_
                  refine kt 7 hOnce ?_
                  refine kt 8 hOnce ?_
                  refine kt 9 hOnce ?_
                  refine kt 10 hOnce ?_
                  refine kt 11 hOnce ?_
                  refine kt 12 hOnce ?_
                  refine kt 13 hOnce ?_
                  refine ks 6 (fun K hK => ?_)
                  go_simp
                  (go_at_call 54; (with_reducible refine (rqfrom (hidZ X1 fb po oo) w7.drew 1 hZd (by decide) (by decide)).mono ?_); rintro ee w8 ⟨t1, u8, rfl, hu8⟩)
                  refine kcn hK (hS.out w8 t1) (fun hHeld => ?_)
                  clear hK K
                  obtain ⟨s8, a8, n8, c8, d8, k8, e8, rfl⟩ := hu8.shape
                  have hX8 := hZd.ext t1
                  have hx8 := mkx QV.mono hqgv t1
                  have hu8v := hu8.qv h1q.out
                  refine ks 14 (fun K hK => ?_)
                  go_simp
                  (go_at_call 240; (with_reducible refine (rqquo (hidZ X1 fb po oo) w8 _ _ _ y hX8 hu8v hx8 hp1.out).mono ?_); rintro ee w9 ⟨t2, u9, rfl, hu9⟩)
                  refine kcn hK (hS.out w9 (t1.trans t2)) (fun hHeld => ?_)
                  clear hK K
                  obtain ⟨s9, a9, n9, c9, d9, k9, e9, rfl⟩ := hu9.shape
                  have t12 := t1.trans t2
                  have hX9 := hZd.ext t12
                  have hr9 := mkx RV.mono hrp t12
                  have hu9v := hu9.qv hqb.out
                  refine ks 15 (fun K hK => ?_)
                  go_simp
                  (go_at_call 285; (with_reducible refine (rtimes (hidZ X1 fb po oo) w9 _ _ _ _ hX9 hr9 hu9v hrl3.out).mono ?_); rintro ee w10 ⟨t3, u10, rfl, hu10⟩)
                  refine kcn hK (hS.out w10 (t12.trans t3)) (fun hHeld => ?_)
                  clear hK K
                  obtain ⟨a10, c10, rfl, hcl10, hs10⟩ := hu10
                  have t13 := t12.trans t3
                  have hR10 := hRd.ext0 t13
                  obtain ⟨_, _, p0, fz, _, _⟩ := hR10.row pl hpM1
                  refine kt 16 hOnce ?_
                  refine kl 17 (fun K hK => ?_)
                  go_simp
                  refine hK.out _ _ ?_
                  clear hK K
                  obtain ⟨hO11, hE11⟩ := hR10.rows.set1 tyRats RC.elem SlV.one pl hpM1 (.slice a10 M1[pl].length c10) (M1[pl].map (· * (((1 : Int) : Rat) / y))) ⟨a10, c10, by rw [List.length_map], hcl10, hs10⟩
                  have hR11 := hR10.setRows hE11 hO11
                  have hR12 := hR11
                  rw [<- hpvd.out] at hR12
                  clear p0 fz i2 hO11 hE11 hR11 hHeld hOnce
                  go_wp2_with fail
                  go_meet
                  case rel => exact hR12
                case rest =>
                  have hR3 := hcut
                  clear hcut hR2 hEd i1
                  obtain ⟨w8, hw8⟩ : ∃ w8, w8 = wc := ⟨_, rfl⟩
                  subst hw8
                  obtain ⟨M2, hM2e⟩ : ∃ M2, pv M1 pl j = M2 := ⟨_, rfl⟩
                  rw [hM2e] at hR3 hpiv hM2s hB2s
                  have hM2l : Hid (M2.length = n) := hid hM2s.out.1
                  have hR4 : RS X1 w b fb base 26 41 3 w8 oo co po pc (out M2 pl j 0) P f2 := by rw [out_zero]; exact hR3
                  have hbm2 := hid (hb_bm hB2s.out)
                  have hb0 : Hid (∀ wx, OL RC 1 (un (hidF X1 fb) po) base 26 wx oo co (out M2 pl j n) -> base <= wx.heap.size) := hid fun wx h => by
                    obtain ⟨b0, o0, hb0⟩ := hhO (by omega)
                    have := h.block (k := b0) (by rw [hb0]; simp [ob])
                    omega
                  have i1 : ∀ W, (Instr.indexAt 25 (.slice oo n co) (.int .i64 (pl : Int))).run Tryz.prog W = .ok (.pointer (some (adr oo pl))) W := run_ix1 slRats oo n co .i64 pl hhO (by omega) rfl
                  clear hM2e hR3 hjp hrl1 hei hxB hpvd hrowB hp1
                  go_wp2_with fail
                  go_loopw [10] (fun a wx => ∃ (i : Nat), a = .int .i64 i /\ i <= n /\ RS X1 w b fb base 26 41 3 wx oo co po pc (out M2 pl j i) P f2) (fun a _ => n - (intOf a).toNat)
                  case atStart => exact ⟨0, rfl, Nat.zero_le _, hR4⟩
                  case round =>
                    clear hR4
                    obtain ⟨i, rfl, hi, hR⟩ := hrel
                    by_cases hlt : i < n
                    · by_cases hip : i = pl
                      · have hne3 : ((i : Int) != (pl : Int)) = false := bneF (by omega)
                        have hRn : RS X1 w b fb base 26 41 3 wr oo co po pc (out M2 pl j (i + 1)) P f2 := by subst hip; rw [<- out_skip]; exact hR
                        clear hip hR
                        go_wp2_with fail
                        go_roundw
                        case rel => exact ⟨i + 1, by go_num, by omega, hRn⟩
                        case measure => simp [intOf]; omega
                      · have hne3 : ((i : Int) != (pl : Int)) = true := bneT (by omega)
                        have hiM : i < M2.length := by rw [hM2l.out]; exact hlt
                        have hpM : pl < M2.length := by rw [hM2l.out]; exact hpn2
                        have hiO : i < (out M2 pl j i).length := by rw [out_len]; exact hiM
                        have hpO : pl < (out M2 pl j i).length := by rw [out_len]; exact hpM
                        have hgi : (out M2 pl j i)[i] = M2[i] := by rw [out_get hiO hiM, if_neg (by omega)]
                        have hgp : (out M2 pl j i)[pl] = M2[pl] := by rw [out_get hpO hpM, if_neg (by omega)]
                        have hset := hid (out_set (m := M2) (t := pl) (col := j) hiM hip)
                        rw [getD_row' hpM] at hset
                        obtain ⟨ai, ci, y1, fy1, hcli, hqi⟩ := hR.row i hiO
                        obtain ⟨ap, cp, y2, fy2, hclp, hqp⟩ := hR.row pl hpO
                        rw [hgi] at y1 hcli hqi
                        rw [hgp] at y2 hclp hqp
                        have hrli : Hid (M2[i].length = c) := hid (hM2s.out.2 _ (List.getElem_mem _))
                        have hrlp : Hid (M2[pl].length = c) := hid (hM2s.out.2 _ (List.getElem_mem _))
                        have hBi := hid (hbm2.out M2[i] (List.getElem_mem _))
                        have hBp := hid (hbm2.out M2[pl] (List.getElem_mem _))
                        have hji : j < M2[i].length := by rw [hrli.out]; exact hlj
                        obtain ⟨g, o, s5, a5, n5, c5, d5, k5, e5, hg, hXg, hcg, hqg⟩ := hqi.rat QC.shaped j hji
                        have hvv : M2[i].getD j 0 = M2[i][j] := by rw [List.getD_eq_getElem?_getD, List.getElem?_eq_getElem hji]; rfl
                        rw [hvv] at hset
                        have hvB := hid (hBi.out M2[i][j] (List.getElem_mem _))
                        obtain ⟨v, hv⟩ : ∃ v, M2[i][j] = v := ⟨_, rfl⟩
                        rw [hv] at hset hqg hvB
                        clear hv hvv hgi hgp
                        obtain ⟨row, hrow⟩ : ∃ row, M2[i] = row := ⟨_, rfl⟩
                        rw [hrow] at hset hqi y1 hcli hrli hBi
                        obtain ⟨piv, hpv⟩ : ∃ piv, M2[pl] = piv := ⟨_, rfl⟩
                        rw [hpv] at hset hqp y2 hclp hrlp hBp
                        have hhi : Hd ai c := by have := hqi.hd; rw [hrli.out] at this; exact this
                        have hEd : Ext wr wr.drew := (ExtX.refl wr).drew
                        have i2 : ∀ W, (Instr.indexAt 26 (.slice ai c ci) (.int .i64 (j : Int))).run Tryz.prog W = .ok (.pointer (some ⟨g, o, none⟩)) W := by rw [<- hg]; exact run_indexAt_adr slRat ai c ci .i64 j hhi (by omega)
                        have i3 : ∀ W, (Instr.indexAt 25 (.slice oo n co) (.int .i64 (i : Int))).run Tryz.prog W = .ok (.pointer (some (adr oo i))) W := run_ix1 slRats oo n co .i64 i hhO (by omega) rfl
                        have hri : RV (mk (hidZ X1 fb po oo) wr.drew) (.slice ai c ci) row := by
                          rw [<- hrli.out]
                          exact ⟨ai, ci, rfl, hcli, hqi.qv fun q hq => Nat.le_trans (hBi.out q hq) (by have := hB6'.out; omega)⟩
                        have hrp : RV (mk (hidZ X1 fb po oo) wr.drew) (.slice ap c cp) piv := by
                          rw [<- hrlp.out]
                          exact ⟨ap, cp, rfl, hclp, hqp.qv fun q hq => Nat.le_trans (hBp.out q hq) (by have := hB6'.out; omega)⟩
                        rw [hrli.out] at y1
                        rw [hrlp.out] at y2
                        have hS : Hid (∀ W', Ext wr.drew W' -> W'.cell? (adr oo i) = some (.slice ai c ci) /\ W'.cell? (adr oo pl) = some (.slice ap c cp) /\ W'.cell? ⟨g, o, none⟩ = some (.bool s5) /\ W'.cell? ⟨g, o + 1, none⟩ = some (.slice a5 n5 c5) /\ W'.cell? ⟨g, o + 2, none⟩ = some (.slice d5 k5 e5)) := hid fun W' h => by
                          obtain ⟨k0, k1, k2⟩ := hcg.out noY W' (hEd.trans h) rfl
                          exact ⟨(hEd.trans h).cell y1, (hEd.trans h).cell y2, k0, k1, k2⟩
                        obtain ⟨y1d, y2d, k0, k1, k2⟩ := hS.out wr.drew (ExtX.refl _)
                        have hRd := hR.ext0 hEd
                        have hZd := hRd.hz
                        have hqgv : QV (mk (hidZ X1 fb po oo) wr.drew) (.agg #[.bool s5, .slice a5 n5 c5, .slice d5 k5 e5]) v := hqg.qv (by have := hvB.out; have := hB6'.out; omega)
                        have hnb : Hid (hq (-v) <= 68719476736) := hid (by rw [hq_neg]; have := hvB.out; have := hB6'.out; omega)
                        have hprod : Hid (BR 68719476736 (piv.map (· * -v))) := hid fun q hq => by
                          obtain ⟨x, hx, rfl⟩ := List.mem_map.1 hq
                          have h1 := hBp.out x hx
                          have h2 := hq_mul x (-v)
                          rw [hq_neg] at h2
                          have := hvB.out; have := hB6'.out; omega
                        have hl1 : Hid (piv.length <= 1000000) := hid (by rw [hrlp.out]; omega)
                        have hl2 : Hid (row.length <= 1000000) := hid (by rw [hrli.out]; omega)
                        have hl3 : Hid ((piv.map (· * -v)).length = row.length) := hid (by rw [List.length_map, hrlp.out, hrli.out])
                        have hiO' := hid hiO
                        obtain ⟨PR, hPR⟩ : ∃ PR, piv.map (· * -v) = PR := ⟨_, rfl⟩
                        have hPR' := hid hPR
                        rw [hPR] at hset hprod hl3
                        obtain ⟨NR, hNR⟩ : ∃ NR, List.zipWith (· + ·) row PR = NR := ⟨_, rfl⟩
                        have hNR' := hid hNR
                        rw [hNR] at hset
                        clear hqi hqp hg hcg hR y1 fy1 y2 fy2 hrow hpv hip hiM hpM hpO hqg hiO hji hcli hclp hPR hNR
                        go_wp2_with fail
                        refine wp_region_K 21 (fun w' => w'.cell? (adr oo i) = some (.slice ai c ci) /\ w'.cell? (adr oo pl) = some (.slice ap c cp) /\ w'.cell? ⟨g, o, none⟩ = some (.bool s5) /\ w'.cell? ⟨g, o + 1, none⟩ = some (.slice a5 n5 c5) /\ w'.cell? ⟨g, o + 2, none⟩ = some (.slice d5 k5 e5)) (by kernel_rfl) (by kernel_rfl) (hS.out _ (ExtX.refl _)) (fun hHeld hOnce => ?_)
                        clear y1d y2d k0 k1 k2
                        refine kt 0 hOnce ?_
                        refine kt 1 hOnce ?_
                        refine kt 2 hOnce ?_
                        refine kt 3 hOnce ?_
                        refine kt 4 hOnce ?_
                        refine kt 5 hOnce ?_
                        refine kt 6 hOnce ?_
                        refine kt 7 hOnce ?_
                        refine kt 8 hOnce ?_
                        refine kt 9 hOnce ?_
                        refine kt 10 hOnce ?_
                        refine kt 11 hOnce ?_
                        refine kt 12 hOnce ?_
                        refine kt 13 hOnce ?_
                        refine kt 14 hOnce ?_
                        refine kt 15 hOnce ?_
                        refine kt 16 hOnce ?_
                        refine ks 17 (fun K hK => ?_)
                        go_simp
                        (go_at_call 56; (with_reducible refine (rqneg (hidZ X1 fb po oo) wr.drew _ v hZd hqgv).mono ?_); rintro ee w9 ⟨t1, u9, rfl, hu9⟩)
                        refine kcn hK (hS.out w9 t1) (fun hHeld => ?_)
                        clear hK K
                        obtain ⟨s9, a9, n9, c9, d9, k9, e9, rfl⟩ := hu9.shape
                        have hX9 := hZd.ext t1
                        have hr9 := mkx RV.mono hrp t1
                        have hu9v := hu9.qv hnb.out
                        refine ks 18 (fun K hK => ?_)
                        go_simp
                        (go_at_call 285; (with_reducible refine (rtimes (hidZ X1 fb po oo) w9 _ _ piv (-v) hX9 hr9 hu9v hl1.out).mono ?_); rintro ee w10 ⟨t2, u10, rfl, hu10⟩)
                        refine kcn hK (hS.out w10 (t1.trans t2)) (fun hHeld => ?_)
                        clear hK K
                        rw [hPR'.out] at hu10
                        have hu10v := hu10.rv hprod.out
                        obtain ⟨a10, c10, rfl, hcl10, hs10⟩ := hu10
                        have t12 := t1.trans t2
                        have hX10 := hZd.ext t12
                        have hr10 := mkx RV.mono hri t12
                        refine ks 19 (fun K hK => ?_)
                        go_simp
                        (go_at_call 286; (with_reducible refine (rplus (hidZ X1 fb po oo) w10 _ _ row _ hX10 hr10 hu10v hl2.out hl3.out).mono ?_); rintro ee w11 ⟨t3, u11, rfl, hu11⟩)
                        refine kcn hK (hS.out w11 (t12.trans t3)) (fun hHeld => ?_)
                        clear hK K
                        rw [hNR'.out] at hu11
                        obtain ⟨a11, c11, rfl, hcl11, hs11⟩ := hu11
                        have hR11 := hRd.ext0 (t12.trans t3)
                        obtain ⟨_, _, p0, fz, _, _⟩ := hR11.row i hiO'.out
                        refine kt 20 hOnce ?_
                        refine kl 21 (fun K hK => ?_)
                        go_simp
                        refine hK.out _ _ ?_
                        clear hK K
                        obtain ⟨hO12, hE12⟩ := hR11.rows.set1 tyRats RC.elem SlV.one i hiO'.out (.slice a11 NR.length c11) NR ⟨a11, c11, rfl, hcl11, hs11⟩
                        have hR12 := hR11.setRows hE12 hO12
                        rw [hset.out] at hR12
                        clear p0 fz i2 i3 hO12 hE12 hR11 hHeld hOnce
                        go_wp2_with fail
                        go_roundw
                        case rel => exact ⟨i + 1, by go_num, by omega, hR12⟩
                        case measure => simp [intOf]; omega
                    · have hin : i = n := by omega
                      subst hin
                      have hbase := hb0.out wr hR.rows
                      have hXz : ∀ k, un (hidF X1 fb) oo k = true -> k < wr.heap.size := fun k hk => hR.hz k (by
                        by_cases h : hidF X1 fb k = true
                        · exact un_left (un_left h)
                        · exact un_right (by simpa [un, h] using hk))
                      have hP := hR.piv
                      have hpl2 : Hid ((P ++ [j]).length = pl + 1) := hid (by rw [List.length_append, hpl.out]; rfl)
                      clear i1 hb0
                      go_wp2_with (at_builtin; refine st_append1n (l := P) slInt rfl (NatIn.elem .i64) hbase hXz pl hpl.out rfl rfl hP (.int .i64 (j : Int)) j rfl rfl (by omega) (by omega) ?_; intro po2 pc2 w10 hP6 hE7 hor)
                      have hR9 := hR.push hE7 hP6 hor
                      go_roundg (c - (j + 1))
                      case measure => omega
                      case rel => exact ⟨j + 1, po2, pc2, pl + 1, _, _, _, by go_num, rfl, by omega, hpl2, hpiv, hR9⟩
        · have hin : t = n := by omega
          subst hin
          have hne : ((t : Int) == (t : Int)) = true := beqT rfl
          have hst2 := hid (rN_none hsh'.out hst.out hpl.out hzz.out)
          clear hzz
          go_wp2_with fail
          go_roundg (c - (j + 1))
          case measure => omega
          case rel => exact ⟨j + 1, po, pc, pl, M, P, f, by go_num, rfl, by omega, hpl, hst2, hR⟩
    · have hjc : j = c := by omega
      subst hjc
      go_wp2_with fail
      refine hco.mono ?_
      rintro e w2 ⟨rfl, rfl⟩
      obtain ⟨sf, af, nf, cf, df, kf, ef, bF, hqF⟩ := hR.fac
      have hres := hR.res
      have z0 := bF.cell 0 rfl
      have z1 := bF.cell 1 rfl
      have z2 := bF.cell 2 rfl
      have g0 := hres.cell 0 rfl
      have g1 := hres.cell 1 rfl
      have g2 := hres.cell 2 rfl
      have h0 := hres.frozen 0
      have h1 := hres.frozen 1
      have h2 := hres.frozen 2
      obtain ⟨q1, q2⟩ := hres.set3 (.bool sf) (.slice af nf cf) (.slice df kf ef)
      have q1d := q1.ext0 (ExtX.refl (Y := noY) _).drew
      have q2d := q2.drew
      have hqf : QC (mk X _) (.agg #[.bool sf, .slice af nf cf, .slice df kf ef]) f := QC.mono _ _ _ _ (hunb.out _) (QC.mono _ _ _ _ (mk_mono q2d fun k hk => ob_hid hrb.out hk) (QC.mono _ _ _ _ (mk_sub fun k _ hk => un_left (un_left (un_left hk))) hqF))
      have hEf : Ext w _ := ExtX.box hR.ext q2d (by rw [hbw'.out]; exact Nat.le_refl _)
      have hsr : Sl RC 1 (mk X _) oo M := (((hR.rows.sl RC.elem).mono RC.mono (mk_sub fun k _ hk => un_left (un_left hk))).mono RC.mono (mk_mono q2d fun k hk => ob_hid hrb.out hk)).mono RC.mono (hunb.out _)
      have hsp : Sl (NatIn .i64) 1 (mk X _) po P := (((hR.piv.sl (NatIn.elem _)).mono (NatIn.mono _) (mk_sub fun k _ hk => un_left (un_left hk))).mono (NatIn.mono _) (mk_mono q2d fun k hk => ob_hid hrb.out hk)).mono (NatIn.mono _) (hunb.out _)
      have hpc : P.length <= pc := hR.piv.lenCap
      clear hres bF hR hqF q1 q2 q2d
      go_wp2_with fail
      go_region
      go_wp2_with fail
      refine bodyPost_ret (results_ttb (P := Tryz.prog) (c := 4) (d := 2) (e := 3) rfl rfl stRat q1d rfl) rfl ?_
      have hRO : ∀ w9, Ext w w9 -> Sl RC 1 (mk X w9) oo M -> Sl (NatIn .i64) 1 (mk X w9) po P -> QC (mk X w9) (.agg #[.bool sf, .slice af nf cf, .slice df kf ef]) f -> RedOut X w (rN m j) (.returned (.tuple #[.slice oo n co, .slice po pl pc, .agg #[.bool sf, .slice af nf cf, .slice df kf ef]])) w9 := fun w9 hEf hsr hsp hqf => by
        rw [hst.out]
        exact ⟨hEf, oo, co, po, pc, _, by rw [hMl.out, hpl.out], by rw [hMl.out]; exact hcap, hpc, hsr, hsp, hqf⟩
      exact hRO _ hEf hsr hsp hqf
end Go.Proofs.YtnnpfhoigmegcaaGreat
namespace Go.Lin
open Go.Lim
end Go.Lin
namespace Go.Proofs.YtnnpfhoigmegcaaGreat
open Go.RowKit Go.Rep Go.Lim Go.Lin
def RReOut (X : Nat -> Bool) (w : World) (S : Mat × List Nat) (e : Ending) (w' : World) : Prop := Ext w w' /\ ∃ oo co po pc, e = .returned (.tuple #[.slice oo S.1.length co, .slice po S.2.length pc, .int .i64 0]) /\ S.1.length <= co /\ S.2.length <= pc /\ Sl RC 1 (mk X w') oo S.1 /\ Sl (NatIn .i64) 1 (mk X w') po S.2
theorem rredu_ok (X : Nat -> Bool) (w : World) (u : Value) (m : List (List Rat)) (n c : Nat) (hX : HX X w) (hu : MV (mk X w) u m) (hf : formedB m = true) (hnn : m.length = n) (hcc : colsL m = c) (hT : TameR m c) : Calls Tryz.prog 126 #[u] w (RReOut X w ((rN m c).1, (rN m c).2.1)) := by
  obtain ⟨hsh, h96, hc96, _, _⟩ := formedB_shp hf
  rw [hnn, hcc] at hsh
  rw [hnn] at h96
  rw [hcc] at hc96
  have hfo := rformed QV.mono X w u m hu (by omega)
  rw [hf] at hfo
  have hre := hid (fun w' (h : Ext w w') => rreduce_any X w' u m n c (hX.ext h) (mkx MV.mono hu h) hsh hcc (by omega) (by omega) hT)
  obtain ⟨S, hS⟩ : ∃ S, rN m c = S := ⟨_, rfl⟩
  rw [hS] at hre |-
  clear hf hS
  go_enter Tryz.func126, Tryz.ntmps126
  go_wp2_with fail
  refine hfo.mono ?_
  rintro e w1 ⟨hE1, rfl⟩
  have h1 := hre.out w1 hE1
  clear hfo
  go_wp2_with fail
  refine h1.mono ?_
  rintro e w2 ⟨hE2, oo, co, po, pc, uf, rfl, hco, hpc, hso, hsp, huf⟩
  obtain ⟨s2, a2, n2, c2, d2, k2, e2, rfl⟩ := huf.shape
  have bx := Bx.new w2 #[.bool false, .slice none 0 0, .slice none 0 0] 41
  clear h1
  go_wp2_with ((with_reducible show wpList _ _ _ (⟨_, .store _ _ _, _, _, _, _⟩ :: _) _ _); refine st_storeBox stRat rfl rfl bx rfl rfl (one3 _ _ _ _ _ _ _) ?_; intro w3 r1 r2)
  have hE3 : Ext w2 w3 := ExtX.box ((ExtX.refl w2).alloc _) r2 (Nat.le_refl _)
  go_ret3
  exact ⟨hE1.trans (hE2.trans hE3), oo, co, po, pc, rfl, hco, hpc, hso.mono RC.mono (mk_ext hE3), hsp.mono (NatIn.mono _) (mk_ext hE3)⟩
theorem rrank_ok (X : Nat -> Bool) (w : World) (u : Value) (m : List (List Rat)) (n c : Nat) (hX : HX X w) (hu : MV (mk X w) u m) (hf : formedB m = true) (hnn : m.length = n) (hcc : colsL m = c) (hT : TameR m c) : Calls Tryz.prog 51 #[u] w (fun e w' => Ext w w' /\ e = .returned (.tuple #[.int .i64 (rankV m c : Int), .int .i64 0])) := by
  obtain ⟨hsh, h96, hc96, _, _⟩ := formedB_shp hf
  rw [hnn, hcc] at hsh
  have hre := rredu_ok X w u m n c hX hu hf hnn hcc hT
  have hrk : Hid ((rN m c).2.1.length = rankV m c) := hid (by rw [rankV_red, (red_eq hsh).2])
  obtain ⟨S, hS⟩ : ∃ S, rN m c = S := ⟨_, rfl⟩
  rw [hS] at hre hrk
  clear hf hS
  go_enter Tryz.func51, Tryz.ntmps51
  go_wp2_with fail
  refine hre.mono ?_
  rintro e w1 ⟨hE1, oo, co, po, pc, rfl, hco, hpc, hso, hsp⟩
  rw [hrk.out]
  go_wp2_with fail
  go_ret2
  exact ⟨hE1, rfl⟩
end Go.Proofs.YtnnpfhoigmegcaaGreat
namespace Go.Lin
open Go.Lim Go.Rep
def partR (z : Mat) (s : List Int) : Mat := s.map fun i => z.getD i.toNat []
theorem partR_len (z : Mat) (s : List Int) : (partR z s).length = s.length := by simp [partR]
theorem partR_get {z : Mat} {s : List Int} {j : Nat} (hj : j < (partR z s).length) (hs : j < s.length) {i : Nat} (hi : i < z.length) (h : s[j] = (i : Int)) : (partR z s)[j] = z[i] := by
  simp [partR, h, List.getD_eq_getElem?_getD, hi]
theorem partR_mem {z : Mat} {s : List Int} (hb : ∀ x ∈ s, 0 <= x /\ x < (z.length : Int)) : ∀ r ∈ partR z s, r ∈ z := fun r hr => by
  unfold partR at hr
  obtain ⟨x, hx, rfl⟩ := List.mem_map.1 hr
  have := hb x hx
  have hl : x.toNat < z.length := by omega
  rw [show z.getD x.toNat [] = z[x.toNat] by simp [List.getD_eq_getElem?_getD, hl]]
  exact List.getElem_mem _
theorem asc_toNat {n : Nat} {s : List Int} (hS : s.Pairwise (· < ·)) (hb : ∀ v ∈ s, 0 <= v /\ v < (n : Int)) : (s.map Int.toNat).Pairwise (· < ·) /\ ∀ i ∈ s.map Int.toNat, i < n := by
  refine ⟨?_, ?_⟩
  · rw [List.pairwise_map]
    exact hS.imp_of_mem fun {a b} ha hb' h => by
      have := hb a ha
      have := hb b hb'
      omega
  · intro i hi
    obtain ⟨v, hv, rfl⟩ := List.mem_map.1 hi
    have := hb v hv
    omega
theorem asc_len {n : Nat} {s : List Int} (hS : s.Pairwise (· < ·)) (hb : ∀ v ∈ s, 0 <= v /\ v < (n : Int)) : s.length <= n := by
  obtain ⟨h1, h2⟩ := asc_toNat hS hb
  have := (asc_sub h1 h2).length_le
  simpa using this
theorem flat_law {x : Mat} {n c : Nat} {s : List Int} (hs : Shp n c x) (hc : 0 < c) (hS : s.Pairwise (· < ·)) (hb : ∀ v ∈ s, 0 <= v /\ v < (x.length : Int)) (hl : planeL x c < s.length) : ¬ (redP (partR x s) c).2.length < c := by
  have e : partR x s = (s.map Int.toNat).map fun i => x.getD i [] := by simp [partR]
  rw [e]
  obtain ⟨h1, h2⟩ := asc_toNat hS hb
  exact plane_rank (n := n) hs hc _ h1 h2 (by simpa using hl)
theorem dsg_of {n c : Nat} {m : Mat} (hs : Shp n c m) (h1 : 1 <= n) (h2 : n <= 64) (hc1 : 1 <= c) (hc : c <= 4) : dsgB m = true /\ colsL m = c := by
  have hcol : colsL m = c := by
    unfold colsL
    rw [List.getD_eq_getElem?_getD, List.getElem?_eq_getElem (by rw [hs.1]; exact h1)]
    exact hs.2 _ (List.getElem_mem _)
  refine ⟨?_, hcol⟩
  unfold dsgB
  rw [decide_eq_true (by rw [hs.1]; exact h1), decide_eq_true (by rw [hs.1]; exact h2)]
  exact sameB_true.2 fun i hi => by
    have := hs.2 _ (List.getElem_mem hi)
    omega
end Go.Lin
namespace Go.Proofs.YtnnpfhoigmegcaaGreat
open Go.RowKit Go.Rep Go.Lim Go.Lin
theorem bf_ext {tb : Nat} {w w1 w2 : World} (h : w.heap.size = tb) (hE : Ext w w1) (h2 : ExtX (tbm tb) w1 w2) : Ext w w2 := hE.then_ h2 fun i hi _ => tbm_ne (by omega)
set_option maxRecDepth 100000 in
set_option maxHeartbeats 3200000 in
theorem flat_any (lo : Option Addr) (l : List Int) (cl : Nat) (w : World) (hl : Sl (IntIn .i64) 1 w.cell? lo l) (hcl : l.length <= cl) (hlb : l.length <= 9223372036854775807) :
    Calls Tryz.prog 7 #[.slice lo l.length cl] w (BOut w true) := by
  go_enter Tryz.func7, Tryz.ntmps7
  go_wp2_with fail
  refine (tnew_any lo l cl w hl hcl hlb).mono ?_
  rintro e w1 ⟨rfl, hE1, ht1, hsz1⟩
  obtain ⟨tb, htb⟩ : ∃ tb, w.heap.size = tb := ⟨_, rfl⟩
  have hX1 : HX (tbm tb) w1 := fun k hk => by
    have : k = tb := by simpa [tbm] using hk
    omega
  have hfin := hid (fun w2 (h : ExtX (tbm tb) w1 w2) => bf_ext htb hE1 h)
  rw [htb] at ht1 |-
  clear hE1 hsz1 htb hl
  go_wp2_with fail
  refine (tdesign_any (tbm tb) tb 7 3 w1 ht1 hX1 (by decide) (by decide) (by decide) (by decide)).mono ?_
  rintro e w2 ⟨hE2, ht2, vx, vy, x, y, c, rfl, hx, _, hn1, hn7, hc1, hc3, hrow, _, hxB, _⟩
  have hX2 := hX1.ext hE2
  have hsh : Shp x.length c x := ⟨rfl, hrow⟩
  obtain ⟨hd, hcol⟩ := dsg_of hsh hn1 (by omega) hc1 (by omega)
  have hP : plN x = planeL x c := by unfold plN; rw [if_pos hd, hcol]
  have hPe : plE x = 0 := by unfold plE; rw [if_pos hd]
  have hple := plane_le x c
  have hlaw := hid fun (s : List Int) (h1 : s.Pairwise (· < ·)) (h2 : ∀ v ∈ s, 0 <= v /\ v < (x.length : Int)) (h3 : planeL x c < s.length) => flat_law hsh (by omega) h1 h2 h3
  have hpl := bplane (tbm tb) w2 vx x 4 hX2 hx (by omega) (fun r hr q hq => Nat.le_trans (hxB r hr q hq) (by decide)) (by decide) (by decide)
  rw [hP, hPe] at hpl
  obtain ⟨N, hN⟩ : ∃ N, planeL x c = N := ⟨_, rfl⟩
  rw [hN] at hpl hlaw hple
  have hxB' := hid hxB
  obtain ⟨ua, uc, rfl, huc, hus⟩ := hx
  obtain ⟨a0, c0, hX0, hc0, hcl0, hq0⟩ := hus.row 0 (by omega)
  rw [hrow (x[0]'(by omega)) (List.getElem_mem _)] at hc0
  have hk0 := hid (fun w' (h : ExtX (tbm tb) w2 w') => hc0.out (tbm tb) w' h hX0)
  have hrow' := hid hrow
  obtain ⟨n, hn⟩ : ∃ n, x.length = n := ⟨_, rfl⟩
  have hn' := hid hn
  rw [hn] at huc hn1 hn7 hple hpl hlaw |-
  have hF2 := hid hE2
  clear hq0 hcl0 hc0 hX0 hrow hn hxB hN hP hPe hd hcol hsh hE2 ht1 hX1
  go_wp2_with fail
  refine hpl.mono ?_
  rintro e w3 ⟨hE3, rfl⟩
  have hX3 := hX2.ext hE3
  have ht3 := ht2.ext hE3
  have hF3 := hid (hF2.out.trans (.of hE3))
  clear hF2 hpl
  go_wp2_with fail
  go_loopw [8] (fun s wr => ∃ i : Nat, s = .int .i64 i /\ i <= 5 /\ TapeR (tbm tb) tb wr /\ ExtX (tbm tb) w3 wr) (fun s _ => 5 - (intOf s).toNat)
  case atStart => exact ⟨0, rfl, by decide, ht3, ExtX.refl _⟩
  case round =>
    obtain ⟨i, rfl, hi, htr, hE⟩ := hrel
    have hXr : HX (tbm tb) wr := hX3.ext hE
    by_cases hlt : i < 5
    · go_wp2_with fail
      refine (tsubset_any (tbm tb) tb n wr htr hXr hn1 (by omega)).mono ?_
      rintro e w5 ⟨hE5, so, S, sc, rfl, hsc, hS1, hSp, hSb, hts, hOS⟩
      have ht5 := hts.unX htr.1
      have hX5 := hXr.ext hE5
      have hs5 := hOS.sl (IntIn.elem .i64)
      have hsub : ∀ k, tbm tb k = true -> tbm tb k = true := fun _ h => h
      have hG5 : ExtX (tbm tb) w2 w5 := (ExtX.of hE3).trans (hE.trans hE5)
      have hx5 : Sl RV 1 (mk (tbm tb) w5) ua x := hus.mono RV.mono (mk_mono hG5 hsub)
      have hF5 := hid (hE.trans hE5)
      have hl2 := hid fun h => hlaw.out S hSp hSb h
      obtain ⟨M, hM⟩ : ∃ M, partR x S = M := ⟨_, rfl⟩
      have hMl : M.length = S.length := by rw [<- hM]; exact partR_len x S
      have hMi := hid (show ∀ j (h1 : j < M.length) (h2 : j < S.length) (i : Nat) (h3 : i < x.length), S[j] = (i : Int) -> M[j] = x[i] from fun j h1 h2 i h3 h => by subst hM; exact partR_get h1 h2 h3 h)
      have hMm := hid (show ∀ r ∈ M, r ∈ x from fun r hr => by subst hM; exact partR_mem (by rw [hn'.out]; exact hSb) r hr)
      rw [hM] at hl2
      have hkn := asc_len hSp hSb
      have hb' := hid hSb
      have hhs := hs5.hd
      have hha := hx5.hd
      obtain ⟨k, hk⟩ : ∃ k, S.length = k := ⟨_, rfl⟩
      have hk' := hid hk
      rw [hk] at hkn hhs hsc hS1 hMl hl2 |-
      rw [hn'.out] at hha
      have hMl' := hid hMl
      have hMl1 : M.length <= k := by omega
      have hMl2 : k <= M.length := by omega
      clear hM hSb hk hMl hSp htr hE hXr hE5 hts hOS
      go_wp2_with fail
      go_loopw [9, 37] (fun o cc wq => ∃ (j : Nat) (oo : Option Addr) (co : Nat), cc = .int .i64 j /\ o = .slice oo j co /\ j <= k /\ OL RV 1 (tbm tb) w5.heap.size 26 wq oo co (M.take j) /\ Ext w5 wq) (fun _ cc _ => k - (intOf cc).toNat)
      case atStart => exact ⟨0, none, 0, rfl, rfl, Nat.zero_le _, OL.nil _ _ _ _ _ _, ExtX.refl _⟩
      case round =>
        obtain ⟨j, oo, co, rfl, rfl, hj, hO, hE⟩ := hrel
        have hXq : HX (tbm tb) wr := hX5.ext hE
        have hbase := hE.size
        by_cases hlj : j < k
        · have his : j < S.length := by rw [hk'.out]; exact hlj
          have hiM : j < M.length := by omega
          have htk := hid (take_snoc M j hiM)
          have hln := hid (len_take (l := M) (i := j) (by omega))
          have hcc := (hs5.mono (IntIn.mono _) (mk_ext hE)).int j his
          obtain ⟨h1, h2⟩ := hb'.out S[j] (List.getElem_mem _)
          obtain ⟨q, hq⟩ := Int.eq_ofNat_of_zero_le h1
          have hqn : q < n := by omega
          have hqz : q < x.length := by rw [hn'.out]; exact hqn
          have hMq := hMi.out j hiM his q hqz hq
          rw [hq] at hcc
          have hsr : Sl RV 1 (mk (un (tbm tb) oo) wr) ua x := hx5.old RV.mono hE (fun j hj => hO.ob_lt hj)
          obtain ⟨a1, c1, hX1', hc1', hcl1, hq1⟩ := hsr.row q hqz
          have k00 := hc1'.out noY wr (ExtX.refl _) rfl
          obtain ⟨r, hr⟩ : ∃ r, x[q] = r := ⟨_, rfl⟩
          rw [hr] at k00 hcl1 hq1 hMq
          rw [hMq] at htk
          have hRV : RV (mk (un (tbm tb) oo) wr) (.slice a1 r.length c1) r := ⟨a1, c1, rfl, hcl1, hq1⟩
          obtain ⟨d, hd⟩ : ∃ d, r.length = d := ⟨_, rfl⟩
          rw [hd] at k00 hRV
          clear hr hc1' hcl1 hq1 hMq hd h1 h2 hq
          go_wp2_with (first
            | (with_reducible refine up_ix1 slInt (by omega) (by assumption) ?_)
            | (with_reducible refine up_ix1 slRats (by omega) (by assumption) ?_)
            | (at_builtin; refine st_append1n (l := M.take j) slRats rfl RV.elem hbase hXq j hln.out rfl rfl hO (.slice a1 d c1) r rfl hRV (by omega) (by omega) ?_; intro oo2 co2 w7 hO7 hE7 hor))
          have hE8 := hE.own hO (Nat.le_refl _) hE7
          rw [htk.out] at hO7
          go_roundw
          case rel => exact ⟨j + 1, oo2, co2, by go_num, by go_num, by omega, hO7, hE8⟩
          case measure => simp [intOf]; omega
        · obtain rfl : j = k := by omega
          rw [List.take_of_length_le (by omega)] at hO
          have hMV : MV (mk (tbm tb) wr) (.slice oo j co) M := ⟨oo, co, by rw [hMl'.out], hO.lenCap, hO.sl RV.elem⟩
          have hMs : Shp j c M := ⟨hMl'.out, fun r hr => hrow'.out r (hMm.out r hr)⟩
          have hMB : HB 4 M := bm_hb (fun r hr q hq => Nat.le_trans (hxB'.out r (hMm.out r hr) q hq) (by decide)) (by decide)
          obtain ⟨hMf, hMc⟩ := formedB_of hMs (by omega) hc1 (by omega) (by omega)
          have hrk := rrank_ok (tbm tb) wr _ M j c hXq hMV hMf hMl'.out hMc (tame_cols4 hMs hMB (by omega) (by decide)).2
          rw [rankV_red] at hrk
          obtain ⟨R, hR⟩ : ∃ R, (redP M c).2.length = R := ⟨_, rfl⟩
          rw [hR] at hrk hl2
          have hl3 := hl2.out
          have hc0 := fun w' (h : Ext wr w') => hk0.out w' (((ExtX.of hE3).trans hF5.out).trans ((ExtX.of hE).trans (.of h)))
          have hfw := fun w' (h : Ext wr w') => (⟨hF5.out.trans ((ExtX.of hE).trans (.of h)), ht5.ext (hE.trans h)⟩ : ExtX (tbm tb) w3 w' /\ TapeR (tbm tb) tb w')
          have hx0 : Hd ua n := hha
          clear hMV hMs hMB hMf hMc hR hO hE hF5 hl2 hlaw
          by_cases hb : N < j
          · have hRc : ¬ ((R : Int) < (c : Int)) := by have := hl3 hb; omega
            have hRd := decide_eq_false hRc
            go_wp2_with (first
              | (go_at_call 51; refine hrk.mono ?_; rintro ee w6 ⟨hE6, rfl⟩; have kc := hc0 w6 hE6)
              | (with_reducible refine up_ix1 slRats (by omega) (by assumption) ?_))
            obtain ⟨hf1, hf2⟩ := hfw _ hE6
            go_roundw
            case rel => exact ⟨i + 1, by go_num, by omega, hf2, hf1⟩
            case measure => simp [intOf]; omega
          · go_wp2_with (first
              | (go_at_call 51; refine hrk.mono ?_; rintro ee w6 ⟨hE6, rfl⟩)
              | (with_reducible refine up_ix1 slRats (by omega) (by assumption) ?_))
            obtain ⟨hf1, hf2⟩ := hfw _ hE6
            go_roundw
            case rel => exact ⟨i + 1, by go_num, by omega, hf2, hf1⟩
            case measure => simp [intOf]; omega
    · have hlast := awake35_any wr
      go_wp2_with (first | (go_at_call 33; refine hlast.mono ?_; rintro ee w6 ⟨hE6, rfl⟩))
      go_ret
      exact ⟨hfin.out _ (hF3.out.trans (hE.trans (.of hE6))), rfl⟩
end Go.Proofs.YtnnpfhoigmegcaaGreat
namespace Go.Proofs.YtnnpfhoigmegcaaGreat
open Go.ChangeShapes Go.WideShapes Go.ChangeAt Go.RowKit Go.Rep Go.Deep
section
variable {H : Type} {enc : TypeId × Value -> H} {w : World} {base : Nat} {spare : Nat -> Bool} {held : Bool}
theorem adr_some {x : Addr} {v : Value} (h : w.cell? (x.add 0) = some v) : (∀ j, x.add j = adr (some x) j) /\ ∃ b off, x = ⟨b, off, none⟩ := by
  have hs := World.cell?_spot h
  obtain ⟨b, off, spot⟩ := x
  have hspot : spot = none := by simpa [Addr.add] using hs
  subst hspot
  exact ⟨fun j => by rw [Addr.add_lit]; simp [adr], b, off, rfl⟩
end
end Go.Proofs.YtnnpfhoigmegcaaGreat
namespace Go.Proofs.YtnnpfhoigmegcaaGreat
open Go.ChangeShapes Go.WideShapes Go.ChangeAt Go.RowKit Go.Rep Go.Deep
theorem rng_i64 {n : Int} (h : (Lit.int .i64 n).wf = true) : -9223372036854775808 <= n /\ n <= 9223372036854775807 := by
  unfold Lit.wf at h
  simpa [IntKind.min, IntKind.max, IntKind.signed, IntKind.bits] using h
section
variable {H : Type} {enc : TypeId × Value -> H} {P : Program} {w : World} {base : Nat} {spare : Nat -> Bool} {held : Bool}
theorem ints_wf {fuel : Nat} {v : Value} {x : DataW H × List MemPlace} (h : DataW.trod enc Tryz.prog w base spare held fuel 22 [v] = some x) :
    ∃ (a : Option Addr) (l : List Int) (cap : Nat), v = .slice a l.length cap /\ l.length <= cap /\ l.length <= 9223372036854775807 /\ Sl (IntIn .i64) 1 (mk noY w) a l /\ ∀ x ∈ l, -9223372036854775808 <= x /\ x <= 9223372036854775807 := by
  rw [mk_noY]
  rcases open_ints Tryz.underlying22 Tryz.underlying3 (by kernel_rfl) h with ⟨hcs, _⟩ | ⟨x, len, c, zs, hcs, _, hl, hm, hz, _, hcell, hwf⟩
  · refine ⟨none, [], 0, by simpa using hcs, by simp, by simp, Sl.nil _ _ _ _, by simp⟩
  · have hzl : len <= zs.length := by
      rw [hz]; split <;> omega
    have hlen : (zs.take len).length = len := by simp; omega
    have hmax : c <= 9223372036854775807 := by simpa [maxLen] using hm
    refine ⟨some x, zs.take len, c, by rw [hlen]; simpa using hcs, by omega, by omega, ⟨fun h0 => ?_, fun i hi => ?_⟩, fun y hy => rng_i64 (hwf y (List.mem_of_mem_take hy))⟩
    · obtain ⟨_, b, off, hx⟩ := adr_some (hcell 0 (by omega))
      exact ⟨b, off, by rw [hx]⟩
    · have hi' : i < zs.length := by omega
      refine ⟨.int .i64 (zs.take len)[i], rfl, fun j hj => ?_, rfl⟩
      have hj0 : j = 0 := by simp [Value.cells] at hj; exact hj
      subst hj0
      have h1 := hcell i hi'
      have h2 := (adr_some (hcell 0 (by omega))).1 i
      rw [h2] at h1
      simp only [Nat.mul_one, Nat.add_zero, List.getElem_take]
      rw [h1]
      simp [List.getD_eq_getElem?_getD, hi', Value.cells]
end
end Go.Proofs.YtnnpfhoigmegcaaGreat
namespace Go.Proofs.YtnnpfhoigmegcaaGreat.seat
open Go.RowKit
theorem and_t {a b : Bool} (h1 : a = true) (h2 : b = true) : (a && b) = true := by rw [h1, h2]; rfl
theorem laid : laidOutB Tryz.pinned.checked.prog = true := by kernel_rfl
theorem maps : mapsRowed Tryz.pinned.checked.prog = true := by kernel_rfl
theorem stops : (Program.stops Tryz.pinned.checked.prog == []) = true := by kernel_rfl
theorem knobs : (Program.stopKnobs Tryz.pinned.checked.prog == []) = true := by kernel_rfl
theorem heard : Program.stopsHeard Tryz.pinned.checked.prog = true := by kernel_rfl
theorem enter : Program.mayEnter Tryz.pinned.checked.prog = true := by kernel_rfl
theorem lifts : (Rows.certifyFitsRow.lifted == Program.liftsFinal Tryz.pinned.checked.prog) = true := by kernel_rfl
theorem make : (Program.make Tryz.pinned.checked.prog == some Rows.certifyFitsRow.make) = true := by kernel_rfl
theorem plain : (Rows.certifyFitsRow.plainKeys == Program.plainKeys Tryz.pinned.checked.prog) = true := by kernel_rfl
end Go.Proofs.YtnnpfhoigmegcaaGreat.seat
