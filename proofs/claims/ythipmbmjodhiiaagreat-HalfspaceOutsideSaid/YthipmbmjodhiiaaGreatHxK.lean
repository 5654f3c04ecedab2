/- Parts of a proof: each theorem states what it proves, and its conditions. -/
import Derived.Test.YthipmbmjodhiiaaGreatHxJ
import Derived.Deep.RegionHeld3
import Derived.Test.YthipmbmjodhiiaaGreatRows
import Derived.WalkKit
import Derived.JoinedOf
import Derived.ProofKit
import Derived.OpenShut
import Derived.ShutString
import Derived.ChangeOld
import Derived.Below
import Derived.Deep.Slices
import Derived.Deep.Fields
import Derived.ChangeSame
namespace Go.Rep
open Go.RowKit Go.Lim
theorem lit_rows (X : Nat -> Bool) (w : World) (ao : Option Addr) (n cap : Nat) (l : List Rat) (e : TypeId) (hX : ∀ k, X k = true -> k < w.heap.size) (h : RC (mk X w) (.slice ao n cap) l) :
    OL RC 1 X w.heap.size e (w.alloc (.cells #[.slice ao n cap] e)) (some ⟨w.heap.size, 0, none⟩) 1 [l] :=
  OL.lit RC.elem hX (Nat.le_refl _) [.slice ao n cap] [l] _ (by simp [cellsL, Value.cells]) rfl (fun i hi _ => by
    have : i = 0 := by simpa using hi
    subst this; exact h) (by simp)
theorem st_copyNil {P : Program} {ops : Array Oper} {Q : Exit -> Act -> World -> Prop} {rest : List Oper} {a : Act} {w : World} {α : Type} {R : Mem -> Value -> α -> Prop} {sz : Nat} {X : Nat -> Bool} {e : TypeId} {d : Option Tmp} {ty : TypeId} {ps : String} {af : Array Edge}
    {t by_ : Nat} {z : Value} {s x : Operand} {ax : Option Addr} {cs : Nat} (T : SliceT P t e sz by_ z) (hzs : z.cells.size = sz) (hR : Elem R sz) (base : Nat) (hbase : base <= w.heap.size) (hX : ∀ k, X k = true -> k < w.heap.size)
    (xs : List α) (n : Nat) (hn : xs.length = n) (hs : a.eval s = .slice none 0 0) (hx : a.eval x = .slice ax n cs) (hxs : Sl R sz (mk X w) ax xs) (hroom : n * by_ <= 140737488355328) (hmax : n <= 9223372036854775807)
    (K : ∀ ao' cap' w', OL R sz X base e w' ao' cap' xs -> n <= cap' -> Ext w w' -> wpList P ops Q rest (a.put d (.slice ao' n cap')) w') :
    wpList P ops Q (⟨d, .call { callee := .builtin .append, args := #[s, x], argTypes := #[t, t] }, ty, ps, af, none⟩ :: rest) a w := by
  subst hn
  have h0 : Sl R sz (mk (un X none) w) ax xs := by
    have : un X none = X := by funext k; simp [un, ob]
    rw [this]; exact hxs
  refine st_appendl (l := []) T hzs hR hbase hX xs hs hx (OL.nil _ _ _ _ _ _) h0 (by simpa using hroom) (by simpa using hmax) fun ao' cap' w' hO hE _ => ?_
  rw [List.nil_append] at hO |-
  exact K ao' cap' w' hO hO.lenCap (hE.weaken fun _ _ _ => rfl)
theorem Sl.rowsF {R : Mem -> Value -> Rat -> Prop} {h : Mem} {ao : Option Addr} {m : List (List Rat)} (s : Sl (SlV R 3) 1 h ao m) : ∃ f : Nat -> Option Addr × Nat, ∀ i (hi : i < m.length), h (adr ao i) = some (.slice (f i).1 m[i].length (f i).2) /\ m[i].length <= (f i).2 /\ Sl R 3 h (f i).1 m[i] := by
  have key : ∀ i, ∃ p : Option Addr × Nat, ∀ (hi : i < m.length), h (adr ao i) = some (.slice p.1 m[i].length p.2) /\ m[i].length <= p.2 /\ Sl R 3 h p.1 m[i] := fun i => by
    by_cases hi : i < m.length
    · obtain ⟨u, h1, a, c, rfl, h2, h3⟩ := s.cell SlV.one i hi
      exact ⟨(a, c), fun _ => ⟨h1, h2, h3⟩⟩
    · exact ⟨(none, 0), fun h => absurd h hi⟩
  exact ⟨fun i => (key i).choose, fun i hi => (key i).choose_spec hi⟩
theorem OL.rowsF {X : Nat -> Bool} {base : Nat} {e : TypeId} {w : World} {ao : Option Addr} {cap : Nat} {m : List (List Rat)} (s : OL RC 1 X base e w ao cap m) : ∃ f : Nat -> Option Addr × Nat, ∀ i (hi : i < m.length), w.cell? (adr ao i) = some (.slice (f i).1 m[i].length (f i).2) /\ m[i].length <= (f i).2 /\ Sl QC 3 (mk (un X ao) w) (f i).1 m[i] := by
  have key : ∀ i, ∃ p : Option Addr × Nat, ∀ (hi : i < m.length), w.cell? (adr ao i) = some (.slice p.1 m[i].length p.2) /\ m[i].length <= p.2 /\ Sl QC 3 (mk (un X ao) w) p.1 m[i] := fun i => by
    by_cases hi : i < m.length
    · obtain ⟨u, h1, _, h2⟩ := s.cell SlV.one i hi
      obtain ⟨a, c, rfl, h3, h4⟩ := h2
      exact ⟨(a, c), fun _ => ⟨h1, h3, h4⟩⟩
    · exact ⟨(none, 0), fun h => absurd h hi⟩
  exact ⟨fun i => (key i).choose, fun i hi => (key i).choose_spec hi⟩
theorem ob_adr {ao : Option Addr} {n k : Nat} (hd : Hd ao n) (hn : 0 < n) {b : Nat} (hb : ob ao b = false) : (adr ao k).block ≠ b := by
  obtain ⟨g, o, rfl⟩ := hd hn
  intro h
  have : g = b := h
  subst this
  simp [ob] at hb
end Go.Rep
namespace Go.Proofs.YthipmbmjodhiiaaGreat
open Go.RowKit Go.Rep Go.Lim
def pB (k : Nat) : Nat := 2 ^ (k + 1) - 2
theorem pB_step (k : Nat) : 2 * pB k + 2 = pB (k + 1) := by
  unfold pB
  have : 4 <= 2 ^ (k + 1) \/ k = 0 := by
    rcases Nat.eq_zero_or_pos k with h | h
    · exact .inr h
    · exact .inl (by have := Nat.pow_le_pow_right (n := 2) (by decide) (show 2 <= k + 1 by omega); simpa using this)
  have h2 : 2 <= 2 ^ (k + 1) := by have := Nat.pow_le_pow_right (n := 2) (by decide) (show 1 <= k + 1 by omega); simpa using this
  rw [Nat.pow_succ 2 (k + 1)]
  omega
theorem pB_mono {j k : Nat} (h : j <= k) : pB j <= pB k := by
  unfold pB
  have := Nat.pow_le_pow_right (n := 2) (by decide) (show j + 1 <= k + 1 by omega)
  omega
theorem pB_8 : pB 8 = 510 := by decide
def TPtsOut (X : Nat -> Bool) (tb : Nat) (n d : Nat) (w : World) (e : Ending) (w' : World) : Prop := ExtX (tbm tb) w w' /\ ∃ (ao : Option Addr) (l : List (List Rat)) (cap : Nat), e = .returned (.slice ao l.length cap) /\ l.length <= cap /\ 1 <= l.length /\ l.length <= n /\ (∀ r ∈ l, r.length = d) /\ BM 510 l /\ TapeR (un X ao) tb w' /\ OL RC 1 X w.heap.size 27 w' ao cap l
theorem hq_turn {x y : Rat} {B : Nat} (hx : hq x <= B) (hy : hq y <= B) : hq (2 * x - y) <= 2 * B + 2 := by
  have h1 := hq_sub (2 * x) y
  have h2 := hq_mul 2 x
  have h3 : hq (2 : Rat) <= 1 := by
    have := hq_int 2 1 (lgI (by omega) (by omega)) (by omega)
    exact this
  omega
def turnN (p a b : List Rat) (j : Nat) : List Rat := (List.range p.length).map fun i => if i < j then 2 * a.getD i 0 - b.getD i 0 else p.getD i 0
theorem turnN_len (p a b : List Rat) (j : Nat) : (turnN p a b j).length = p.length := by simp [turnN]
theorem turnN_zero (p a b : List Rat) : turnN p a b 0 = p := by
  refine List.ext_getElem (by simp [turnN]) fun i h1 h2 => ?_
  simp [turnN, List.getD_eq_getElem?_getD, h2]
theorem turnN_set (p a b : List Rat) (j : Nat) (hj : j < p.length) : (turnN p a b j).set j (2 * a.getD j 0 - b.getD j 0) = turnN p a b (j + 1) := by
  refine List.ext_getElem (by simp [turnN]) fun i h1 h2 => ?_
  rw [List.getElem_set]
  simp only [turnN, List.getElem_map, List.getElem_range]
  split
  · subst_vars; simp
  · by_cases h : i < j
    · simp [h, show i < j + 1 by omega]
    · simp [h, show ¬ i < j + 1 by omega]
theorem turnN_br {p a b : List Rat} {B : Nat} (hp : BR B p) (ha : BR B a) (hb : BR B b) (hB : 1 <= B) (j : Nat) : BR (2 * B + 2) (turnN p a b j) := by
  have g : ∀ {x : List Rat}, BR B x -> ∀ q, hq (x.getD q 0) <= B := fun {x} hx q => by
    rw [List.getD_eq_getElem?_getD]
    by_cases h : q < x.length
    · rw [List.getElem?_eq_getElem h]; exact hx _ (List.getElem_mem _)
    · rw [List.getElem?_eq_none (by omega)]; simp [hq_zero, hB]
  intro q hq'
  unfold turnN at hq'
  obtain ⟨i, _, rfl⟩ := List.mem_map.1 hq'
  split
  · exact hq_turn (g ha i) (g hb i)
  · have := g hp i; omega
set_option maxRecDepth 100000 in
set_option maxHeartbeats 3200000 in
theorem tpoints_any (X : Nat -> Bool) (tb n d : Nat) (w : World) (ht : TapeR X tb w) (hX : HX X w) (hn1 : 1 <= n) (hn : n <= 8) (hd : d <= 1000) :
    Calls Tryz.prog 15 #[.pointer (some ⟨tb, 0, none⟩), .int .i64 (n : Int), .int .i64 (d : Int)] w (TPtsOut X tb n d w) := by
  have hsub := tbm_sub ht.1
  have htX := ht.1
  go_enter Tryz.func15, Tryz.ntmps15
  go_wp2_with fail
  refine (trow_any X tb d w ht hX hd).mono ?_
  rintro e w1 ⟨hE1, ao1, l1, cap1, rfl, hl1, hc1, hB1, ht1, hO1⟩
  have hX1 := hX.ext hE1
  have hRC1 : RC (mk X w1) (.slice ao1 d cap1) l1 := ⟨ao1, cap1, by rw [hl1], by omega, hO1.sl QC.elem⟩
  have hL := (lit_rows X w1 ao1 d cap1 l1 27 hX1 hRC1).base_le (b' := w.heap.size) hE1.size
  have ht1X := (ht1.unX htX).old (oo := some ⟨w1.heap.size, 0, none⟩) ((ExtX.refl (Y := noY) w1).alloc (.cells #[.slice ao1 d cap1] 27)) (ob_new w1)
  have hF1 : ExtX (tbm tb) w (w1.alloc (.cells #[.slice ao1 d cap1] 27)) := hE1.alloc _
  obtain ⟨w2, hw2⟩ : ∃ w2, w1.alloc (.cells #[.slice ao1 d cap1] 27) = w2 := ⟨_, rfl⟩
  obtain ⟨g1, hg1⟩ : ∃ g1 : Option Addr, some ⟨w1.heap.size, 0, none⟩ = g1 := ⟨_, rfl⟩
  rw [hg1] at hL ht1X
  rw [hw2] at hL ht1X hF1
  go_wp2_with fail
  have hX2 : HX X w2 := hX.ext hF1
  refine (next_any (un X g1) tb n _ ht1X (by omega)).mono ?_
  rintro e w3 ⟨hE3, ht3, m3, rfl, hm3⟩
  have hO3 := hL.ext RC.elem hE3 (fun k _ hk => hsub k hk) (fun _ _ h => h)
  have hF3 := hF1.trans hE3
  clear hL ht1X hF1 hE3 hX2 hX1 hRC1 hO1 ht1 hE1 hw2 hg1
  go_wp2_with fail
  go_loopw [7, 8] (fun s c wr => ∃ (i k : Nat) (oo : Option Addr) (co : Nat) (l : List (List Rat)), c = .int .i64 i /\ s = .slice oo k co /\ l.length = k /\ 1 <= k /\ i + k <= n /\ (∀ r ∈ l, r.length = d) /\ BM (pB k) l /\ OL RC 1 X w.heap.size 27 wr oo co l /\ TapeR (un X oo) tb wr /\ ExtX (tbm tb) w wr) (fun _ c _ => (intOf c).toNat)
  case atStart => exact ⟨m3, 1, _, _, [l1], rfl, rfl, rfl, Nat.le_refl _, by omega, fun r hr => by rw [List.mem_singleton.1 hr]; exact hl1, fun r hr => by rw [List.mem_singleton.1 hr]; exact hB1, hO3, ht3, hF3⟩
  case round =>
    clear hO3 ht3 hF3
    obtain ⟨i, k, oo, co, l, rfl, rfl, hlk, hk1, hik, hrl, hBM, hO, htr, hE⟩ := hrel
    have hXr : HX X wr := hX.ext hE
    by_cases hlt : 0 < i
    · have hXu : HX (un X oo) wr := hO.unX hXr
      have hlk' := hid hlk
      have hrl' := hid hrl
      have hO0 := hid hO
      have hE0 := hid hE
      have hXu0 := hXu
      go_wp2_with fail
      refine (trow_any (un X oo) tb d wr htr hXu hd).mono ?_
      rintro e w2 ⟨hE2, po, p, pc, rfl, hpl, hpc, hpB, ht2, hP⟩
      go_wp2_with fail
      refine (next_any (un (un X oo) po) tb 6 _ ht2 (by omega)).mono ?_
      rintro e w3 ⟨hE3, ht3, m3, rfl, hm3⟩
      have hP3 := hP.ext QC.elem hE3 (fun k _ hk => un_left (hsub k hk)) (fun _ _ h => h)
      have hO3 := (hO.ext RC.elem hE2 (fun k _ hk => hsub k hk) (fun _ _ h => h)).ext RC.elem hE3 (fun k _ hk => hsub k hk) (fun _ _ h => h)
      have hF3 := (hE.trans hE2).trans hE3
      have hE23 := hE2.trans hE3
      have hXu3 := (hXu.ext hE2).ext hE3
      have htu3 : TapeR (un X oo) tb w3 := ht3.unX (un_left htX)
      have hpB2 : 2 <= pB (k + 1) := by have := pB_mono (show 1 <= k + 1 by omega); have : pB 1 = 2 := rfl; omega
      have hBM' := hid hBM
      obtain ⟨i, rfl⟩ : ∃ j, i = j + 1 := ⟨i - 1, by omega⟩
      clear hP hO ht2 htr hE2 hE hXu hlk hrl hBM
      have hcase : m3 < 4 \/ m3 = 4 \/ m3 = 5 := by omega
      rcases hcase with h | rfl | rfl
      · obtain ⟨p2, hp2⟩ : ∃ p2, p = p2 := ⟨_, rfl⟩
        subst hp2
        have hp2l := hid hpl
        have hp2B : Hid (BR (pB (k + 1)) p) := hid fun q hq => Nat.le_trans (hpB q hq) hpB2
        have hRC : RC (mk (un X oo) w3) (.slice po d pc) p := ⟨po, pc, by rw [hpl], by omega, hP3.sl QC.elem⟩
        have hOK := hO3
        have htK := htu3
        have hFK := hF3
        have hXK := hX.ext hF3
        have t4 : ((m3 : Int) == 4) = false := beqF (by omega)
        have t5 : ((m3 : Int) == 5) = false := beqF (by omega)
        clear hpl hP3
        have hb7 := hFK.size
        go_wp2_with (at_builtin; refine st_append1n (l := l) slRats rfl RC.elem hb7 hXK k hlk'.out rfl rfl hOK (.slice po d pc) p rfl hRC (by omega) (by omega) ?_; intro oo2 co2 w7 hO7 hE7 hor)
        have hE8 := hFK.own hOK (Nat.le_refl _) hE7
        have ht8 := htK.unstep (hOK.not_ob htX) hE7 hor
        have hl8 : (l ++ [p]).length = k + 1 := by rw [List.length_append, hlk'.out]; rfl
        have hr8 : ∀ r ∈ l ++ [p], r.length = d := fun r hr => by
          rcases List.mem_append.1 hr with h | h
          · exact hrl'.out r h
          · rw [List.mem_singleton.1 h]; exact hp2l.out
        have hB8 : BM (pB (k + 1)) (l ++ [p]) := fun r hr => by
          rcases List.mem_append.1 hr with h | h
          · exact fun q hq => Nat.le_trans (hBM'.out r h q hq) (pB_mono (by omega))
          · rw [List.mem_singleton.1 h]; exact hp2B.out
        go_roundw
        case rel => exact ⟨i, k + 1, oo2, co2, _, by go_num, by go_num, hl8, by omega, by omega, hr8, hB8, hO7, ht8, hE8⟩
        case measure => simp [intOf]
      · go_wp2_with fail
        refine (next_any (un X oo) tb k _ htu3 (by omega)).mono ?_
        rintro e w4 ⟨hE4, ht4, m4, rfl, hm4⟩
        have hm4' : m4 < l.length := by rw [hlk'.out]; omega
        have hO4 := hO3.ext RC.elem hE4 (fun k _ hk => hsub k hk) (fun _ _ h => h)
        have hF4 := hF3.trans hE4
        have hXu4 := hXu3.ext hE4
        obtain ⟨u4, hc4, _, hr4⟩ := hO4.cell SlV.one m4 hm4'
        obtain ⟨a4, c4, rfl, hcl4, hs4⟩ := hr4
        have hhd := hO4.hd
        rw [hlk'.out] at hhd
        have hrd := hrl'.out l[m4] (List.getElem_mem _)
        have hrB := hBM'.out l[m4] (List.getElem_mem _)
        obtain ⟨r, hr⟩ : ∃ r, l[m4] = r := ⟨_, rfl⟩
        rw [hr] at hc4 hcl4 hs4 hrd hrB
        have hrd' := hid hrd
        rw [hrd] at hc4 hcl4
        have hm4k : m4 < k := by omega
        have hrd' := hid hrd
        clear hr hrd hm4' hO3 htu3 hF3 ht3 hE4 hP3 hXu3
        have hp2l := hrd'
        have hp2B : Hid (BR (pB (k + 1)) r) := hid fun q hq => Nat.le_trans (hrB q hq) (pB_mono (by omega))
        go_wp2_with (first
          | (with_reducible refine up_ix1 slRats (by omega) (by assumption) ?_)
          | (at_builtin; refine st_copyNil slRat rfl QC.elem w4.heap.size (Nat.le_refl _) hXu4 r d hrd'.out rfl rfl hs4 (by omega) (by omega) ?_; intro po5 pc5 w5 hO5 hc5 hE5; have hOK := hO4.ext0 RC.elem hE5; have htK : TapeR (un X oo) tb w5 := ht4.ext hE5; have hFK := hF4.trans (ExtX.of hE5); have hXK := hX.ext hFK; have hRC : RC (mk (un X oo) w5) (.slice po5 d pc5) r := ⟨po5, pc5, by rw [hrd'.out], by rw [hrd'.out]; exact hc5, hO5.sl QC.elem⟩; have hb7 := hFK.size)
          | (at_builtin; refine st_append1n (l := l) slRats rfl RC.elem hb7 hXK k hlk'.out rfl rfl hOK (.slice po5 d pc5) r rfl hRC (by omega) (by omega) ?_; intro oo2 co2 w7 hO7 hE7 hor))
        have hE8 := hFK.own hOK (Nat.le_refl _) hE7
        have ht8 := htK.unstep (hOK.not_ob htX) hE7 hor
        have hl8 : (l ++ [r]).length = k + 1 := by rw [List.length_append, hlk'.out]; rfl
        have hr8 : ∀ x ∈ l ++ [r], x.length = d := fun x hr => by
          rcases List.mem_append.1 hr with h | h
          · exact hrl'.out x h
          · rw [List.mem_singleton.1 h]; exact hp2l.out
        have hB8 : BM (pB (k + 1)) (l ++ [r]) := fun x hr => by
          rcases List.mem_append.1 hr with h | h
          · exact fun q hq => Nat.le_trans (hBM'.out x h q hq) (pB_mono (by omega))
          · rw [List.mem_singleton.1 h]; exact hp2B.out
        go_roundw
        case rel => exact ⟨i, k + 1, oo2, co2, _, by go_num, by go_num, hl8, by omega, by omega, hr8, hB8, hO7, ht8, hE8⟩
        case measure => simp [intOf]
      · obtain ⟨f, hf⟩ := hO0.out.rowsF
        have hhd := hO3.hd
        rw [hlk'.out] at hhd
        have hobt : ob oo tb = false := hO3.not_ob htX
        have hpt : ob po tb = false := hP3.not_ob (un_left htX)
        have hS : Hid (∀ w', ExtX (tbm tb) w3.drew w' -> ∀ m, m < k -> w'.cell? (adr oo m) = some (.slice (f m).1 d (f m).2)) := hid fun w' h m hm => by
          have hml : m < l.length := by rw [hlk'.out]; exact hm
          have h1 := (hf m hml).1
          rw [hrl'.out _ (List.getElem_mem hml)] at h1
          exact (hE23.drew.trans h).cellY h1 (tbm_ne (ob_adr hhd (by omega) hobt))
        have hf' := hid hf
        have hZ3 : HX (un (un X oo) po) w3 := hP3.unX hXu3
        have htd : TapeR (un (un X oo) po) tb w3.drew := ht3.ext (ExtX.refl _).drew
        have i1 : ∀ m, m < k -> ∀ W, (Instr.indexAt 25 (.slice oo k co) (.int .i64 (m : Int))).run Tryz.prog W = .ok (.pointer (some (adr oo m))) W := fun m hm => run_ix1 slRats oo k co .i64 m hhd hm rfl
        have i1' := hid i1
        have hkb : (k : Int) <= 1099511627776 := by omega
        clear hf i1
        go_wp2_with fail
        go_region_held3 (fun w' => ∀ m, m < k -> w'.cell? (adr oo m) = some (.slice (f m).1 d (f m).2))
          (first | exact hS.out _ (ExtX.refl _) | exact hS.out _ t1 | exact hS.out _ (t1.trans t2) | go_keep)
          (first | (go_at_call 31; (with_reducible refine (next_any (un (un X oo) po) tb k w3.drew htd hkb).mono ?_); rintro ee w4 ⟨t1, ht4, m4, rfl, hm4⟩; have hm4k : m4 < k := (by omega); have i4 := i1'.out m4 hm4k) | (go_at_call 31; (with_reducible refine (next_any (un (un X oo) po) tb k w4 ht4 hkb).mono ?_); rintro ee w5 ⟨t2, ht5, m5, rfl, hm5⟩; have hm5k : m5 < k := (by omega); have i5 := i1'.out m5 hm5k) | fail)
        have hE35 : ExtX (tbm tb) w3 w5 := ((ExtX.refl _).drew).trans (t1.trans t2)
        have hP5 := hP3.ext QC.elem hE35 (fun k _ hk => un_left (hsub k hk)) (fun _ _ h => h)
        have hE5 : ExtX (un (tbm tb) po) wr w5 := (hE23.trans hE35).weaken fun _ _ h => (un_false h).1
        have hla : m4 < l.length := by rw [hlk'.out]; exact hm4k
        have hlb : m5 < l.length := by rw [hlk'.out]; exact hm5k
        obtain ⟨_, hca, hsa⟩ := hf'.out m4 hla
        obtain ⟨_, hcb, hsb⟩ := hf'.out m5 hlb
        have hda := hid (hrl'.out _ (List.getElem_mem hla))
        have hdb := hid (hrl'.out _ (List.getElem_mem hlb))
        have hBa := hid (hBM'.out _ (List.getElem_mem hla))
        have hBb := hid (hBM'.out _ (List.getElem_mem hlb))
        rw [hda.out] at hca
        rw [hdb.out] at hcb
        obtain ⟨ra, hra⟩ : ∃ ra, l[m4] = ra := ⟨_, rfl⟩
        obtain ⟨rb, hrb⟩ : ∃ rb, l[m5] = rb := ⟨_, rfl⟩
        rw [hra] at hsa hda hBa
        rw [hrb] at hsb hdb hBb
        obtain ⟨⟨aa, ac⟩, hfa⟩ : ∃ q, f m4 = q := ⟨_, rfl⟩
        obtain ⟨⟨ba, bc⟩, hfb⟩ : ∃ q, f m5 = q := ⟨_, rfl⟩
        rw [hfa] at hca hsa
        rw [hfb] at hcb hsb
        dsimp only at hca hcb hsa hsb
        have hfa' := hid hfa
        have hfb' := hid hfb
        have hoo := hid (fun j (hj : j < wr.heap.size) => show ob po j = false from hP5.ob_lt hj)
        have hleZ : Hid (∀ wx, ExtX (un (tbm tb) po) wr wx -> Le (mk (un X oo) wr) (mk (un (un X oo) po) wx)) := hid fun wx h => mk_over h (fun j hj hk => by
            by_cases hx : tbm tb j = true
            · exact un_left (hsub j hx)
            · simp [un, hx, hoo.out j hj] at hk) (fun j hj hk => by
            by_cases hx : un X oo j = true
            · exact hx
            · simp [un, hoo.out j hj] at hk hx; rcases hk with hk | hk <;> simp [hk] at hx)
        have hlp : Hid (p.length = d) := hid hpl
        have hha : Hd aa d := by have := hsa.hd; rw [hda.out] at this; exact this
        have hhb : Hd ba d := by have := hsb.hd; rw [hdb.out] at this; exact this
        have hhp : Hd po d := by have := hP5.hd; rw [hpl] at this; exact this
        have hkB : pB k <= 510 := by have := pB_mono (show k <= 8 by omega); rw [pB_8] at this; exact this
        rw [<- turnN_zero p ra rb] at hP5
        clear hra hrb hfa hfb hS hf' htd ht3 ht4 i4 i5 hm4 hm5 t1 t2 hE35 hP3 hO3 htu3 hF3 hE23 hE3 hhd
        go_wp2_with fail
        rw [hfa'.out, hfb'.out]
        go_wp2_with fail
        obtain ⟨wo, hwo⟩ : ∃ wo, wo = wr := ⟨_, rfl⟩
        subst hwo
        go_loopw [57] (fun cc wx => ∃ j : Nat, cc = .int .i64 j /\ j <= d /\ OL QC 3 (un X oo) wo.heap.size 34 wx po pc (turnN p ra rb j) /\ TapeR (un (un X oo) po) tb wx /\ ExtX (un (tbm tb) po) wo wx) (fun cc _ => d - (intOf cc).toNat)
        case atStart => exact ⟨0, rfl, Nat.zero_le _, hP5, ht5, hE5⟩
        case round =>
          clear hP5 ht5 hE5
          obtain ⟨j, rfl, hj, hPx, htx, hEx⟩ := hrel
          have hXx : HX (un X oo) wr := hXu0.ext hEx
          have hZx : HX (un (un X oo) po) wr := hPx.unX hXx
          by_cases hjd : j < d
          · have hja : j < ra.length := by rw [hda.out]; exact hjd
            have hjb : j < rb.length := by rw [hdb.out]; exact hjd
            have hjp : j < (turnN p ra rb j).length := by rw [turnN_len, hlp.out]; exact hjd
            have hle := hleZ.out _ hEx
            obtain ⟨g1, o1, s1, a1, n1, c1, d1, k1, e1, hg1, hX1, hc1, hq1⟩ := (hsa.mono QC.mono hle).rat QC.shaped j hja
            obtain ⟨g2, o2, s2, a2, n2, c2, d2, k2, e2, hg2, hX2, hc2, hq2⟩ := (hsb.mono QC.mono hle).rat QC.shaped j hjb
            have hob1 := (un_false hX1).2
            have hob2 := (un_false hX2).2
            have gl : Hid (ra.getD j 0 = ra[j]) := hid (by simp [List.getD_eq_getElem?_getD, hja])
            have gm : Hid (rb.getD j 0 = rb[j]) := hid (by simp [List.getD_eq_getElem?_getD, hjb])
            have hst : Hid ((turnN p ra rb j).set j (2 * ra[j] - rb[j]) = turnN p ra rb (j + 1)) := hid (by rw [<- gl.out, <- gm.out]; exact turnN_set p ra rb j (by rw [hlp.out]; exact hjd))
            have hBx := hid (hBa.out _ (List.getElem_mem hja))
            have hBy := hid (hBb.out _ (List.getElem_mem hjb))
            obtain ⟨x, hx⟩ : ∃ x, ra[j] = x := ⟨_, rfl⟩
            obtain ⟨y, hy⟩ : ∃ y, rb[j] = y := ⟨_, rfl⟩
            rw [hx] at hst hq1 hBx
            rw [hy] at hst hq2 hBy
            have hv2 : Hid (((2 : Int) : Rat) = 2) := hid rfl
            have h2q : Hid (hq (2 : Rat) <= 68719476736) := hid (by have := hq_int 2 1 (lgI (by omega) (by omega)) (by omega); rw [hv2.out] at this; omega)
            have hmq : Hid (hq (2 * x) <= 68719476736) := hid (by
              have h1 := hq_mul 2 x
              have h3 := hq_int 2 1 (lgI (by omega) (by omega)) (by omega)
              rw [hv2.out] at h3
              have := hBx.out
              omega)
            have i1 : ∀ W, (Instr.indexAt 27 (.slice aa d ac) (.int .i64 (j : Int))).run Tryz.prog W = .ok (.pointer (some ⟨g1, o1, none⟩)) W := by rw [<- hg1]; exact run_indexAt_adr slRat aa d ac .i64 j hha (by omega)
            have i2 : ∀ W, (Instr.indexAt 27 (.slice ba d bc) (.int .i64 (j : Int))).run Tryz.prog W = .ok (.pointer (some ⟨g2, o2, none⟩)) W := by rw [<- hg2]; exact run_indexAt_adr slRat ba d bc .i64 j hhb (by omega)
            obtain ⟨g, o, hg⟩ : ∃ g o, adr po (j * 3) = ⟨g, o, none⟩ := ⟨_, _, rfl⟩
            have hg' := hid hg
            have i3 : ∀ W, (Instr.indexAt 27 (.slice po d pc) (.int .i64 (j : Int))).run Tryz.prog W = .ok (.pointer (some ⟨g, o, none⟩)) W := by rw [<- hg]; exact run_indexAt_adr slRat po d pc .i64 j hhp (by omega)
            have hEd : Ext wr wr.drew := (ExtX.refl wr).drew
            have hS : Hid (∀ Y W', ExtX Y wr.drew W' -> Y g1 = false -> Y g2 = false -> W'.cell? ⟨g1, o1, none⟩ = some (.bool s1) /\ W'.cell? ⟨g1, o1 + 1, none⟩ = some (.slice a1 n1 c1) /\ W'.cell? ⟨g1, o1 + 2, none⟩ = some (.slice d1 k1 e1) /\ W'.cell? ⟨g2, o2, none⟩ = some (.bool s2) /\ W'.cell? ⟨g2, o2 + 1, none⟩ = some (.slice a2 n2 c2) /\ W'.cell? ⟨g2, o2 + 2, none⟩ = some (.slice d2 k2 e2)) := hid fun Y W' h y1 y2 => by
              have p1 := hc1.out Y W' ((ExtX.of hEd).trans h) y1
              have p2 := hc2.out Y W' ((ExtX.of hEd).trans h) y2
              exact ⟨p1.1, p1.2.1, p1.2.2, p2.1, p2.2.1, p2.2.2⟩
            obtain ⟨k00, k01, k02, k10, k11, k12⟩ := hS.out noY wr.drew (ExtX.refl _) rfl rfl
            have hx5 : QV (mk (un (un X oo) po) wr.drew) (.agg #[.bool s1, .slice a1 n1 c1, .slice d1 k1 e1]) x := hq1.qv (by have := hBx.out; omega)
            have hy5 : QV (mk (un (un X oo) po) wr.drew) (.agg #[.bool s2, .slice a2 n2 c2, .slice d2 k2 e2]) y := hq2.qv (by have := hBy.out; omega)
            have hZd : HX (un (un X oo) po) wr.drew := hZx
            have hOd := hPx.ext0 QC.elem hEd
            have htd := htx.ext hEd
            have hEwd : ExtX (un (tbm tb) po) wo wr.drew := hEx.trans (ExtX.of hEd)
            clear hx hy hg hg1 hg2 hc1 hc2 hq1 hq2 hca hcb hPx htx hEx hle gl gm
            go_wp2_with fail
            go_region_held3 (fun w' => w'.cell? ⟨g1, o1, none⟩ = some (.bool s1) /\ w'.cell? ⟨g1, o1 + 1, none⟩ = some (.slice a1 n1 c1) /\ w'.cell? ⟨g1, o1 + 2, none⟩ = some (.slice d1 k1 e1) /\ w'.cell? ⟨g2, o2, none⟩ = some (.bool s2) /\ w'.cell? ⟨g2, o2 + 1, none⟩ = some (.slice a2 n2 c2) /\ w'.cell? ⟨g2, o2 + 2, none⟩ = some (.slice d2 k2 e2))
              (first | exact hS.out (ob po) _ ((ExtX.of t123).trans hset.2) hob1 hob2 | exact hS.out noY _ t123 rfl rfl | exact hS.out noY _ t12 rfl rfl | exact hS.out noY _ t1 rfl rfl | go_keep)
              (first
                | (go_at_call 45; (with_reducible refine (rqfrom (un (un X oo) po) wr.drew 2 hZd (by decide) (by decide)).mono ?_); rintro ee w6 ⟨t1, u6, rfl, hu6⟩; rw [hv2.out] at hu6; obtain ⟨s6, a6, n6, c6, d6, k6, e6, rfl⟩ := hu6.shape; have hZ6 := hZd.ext t1; have hu6v := hu6.qv h2q.out; have hx6 := mkx QV.mono hx5 t1)
                | (go_at_call 19; (with_reducible refine (rqmul (un (un X oo) po) w6 _ _ 2 x hZ6 hu6v hx6).mono ?_); rintro ee w7 ⟨t2, u7, rfl, hu7⟩; obtain ⟨s7, a7, n7, c7, d7, k7, e7, rfl⟩ := hu7.shape; have t12 := t1.trans t2; have hZ7 := hZd.ext t12; have hu7v := hu7.qv hmq.out; have hy7 := mkx QV.mono hy5 t12)
                | (go_at_call 18; (with_reducible refine (rqsub (un (un X oo) po) w7 _ _ (2 * x) y hZ7 hu7v hy7).mono ?_); rintro ee w9 ⟨t3, u9, rfl, hu9⟩; obtain ⟨s9, a9, n9, c9, d9, k9, e9, rfl⟩ := hu9.shape; have t123 := t12.trans t3; have hO9 := hOd.ext0 QC.elem t123; obtain ⟨_, v0, v1, v2, _, ⟨q0, f0⟩, ⟨q1, f1⟩, ⟨q2, f2⟩, _⟩ := hO9.cell3 j hjp hg'.out; have hset := hO9.set3 tyRat QC.elem j hjp hg'.out (v0 := .bool s9) (v1 := .slice a9 n9 c9) (v2 := .slice d9 k9 e9) (x := 2 * x - y) hu9)
                | fail)
            obtain ⟨r1, r2⟩ := hset
            rw [hst.out] at r1
            have hE9 : ExtX (un (tbm tb) po) wo _ := (hEwd.trans (ExtX.of t123)).trans (r2.weaken fun _ _ h => (un_false h).2)
            have ht9 := (htd.ext t123).extY r2 (fun _ hk => un_right hk) hpt
            clear k00 k01 k02 k10 k11 k12 i1 i2 i3 q0 q1 q2 f0 f1 f2 r2
            go_wp2_with fail
            go_roundw
            case rel => exact ⟨j + 1, by go_num, by omega, r1, ht9, hE9⟩
            case measure => simp [intOf]; omega
          · have hjl : j = d := by omega
            obtain ⟨r, hr⟩ : ∃ r, turnN p ra rb j = r := ⟨_, rfl⟩
            have hrd : Hid (r.length = d) := hid (by rw [<- hr, turnN_len]; exact hlp.out)
            have hrB : Hid (BR (pB (k + 1)) r) := hid (by
              rw [<- hr, <- pB_step]
              have h1 : 1 <= pB k := by have := pB_mono hk1; have : pB 1 = 2 := rfl; omega
              have h2 : 2 <= pB k := by have := pB_mono hk1; have : pB 1 = 2 := rfl; omega
              exact turnN_br (fun q hq => Nat.le_trans (hpB q hq) h2) hBa.out hBb.out h1 j)
            rw [hr] at hPx
            have hOK : OL RC 1 X w.heap.size 27 wr oo co l := hO0.out.ext RC.elem hEx (fun q hq hk => by
              by_cases hx : tbm tb q = true
              · exact hsub q hx
              · simp [un, hx, hoo.out q hq] at hk) (fun _ _ h => h)
            have hFK : ExtX (tbm tb) w wr := hE0.out.then_ hEx (fun q hq hy => by
              have := hE0.out.size
              simp [un, hy, hoo.out q (by omega)])
            have hXK := hX.ext hFK
            have htK : TapeR (un X oo) tb wr := htx.unX (un_left htX)
            have hpc2 := hPx.lenCap
            rw [hrd.out] at hpc2
            have hRC : RC (mk (un X oo) wr) (.slice po d pc) r := ⟨po, pc, by rw [hrd.out], by rw [hrd.out]; exact hpc2, hPx.sl QC.elem⟩
            have hb7 := hFK.size
            have hlk2 := hlk'.out
            clear hr hPx hca hcb hEx htx hlk2
            go_wp2_with (at_builtin; refine st_append1n (l := l) slRats rfl RC.elem hb7 hXK k hlk'.out rfl rfl hOK (.slice po d pc) r rfl hRC (by omega) (by omega) ?_; intro oo2 co2 w7 hO7 hE7 hor)
            have hE8 := hFK.own hOK (Nat.le_refl _) hE7
            have ht8 := htK.unstep (hOK.not_ob htX) hE7 hor
            have hl8 : (l ++ [r]).length = k + 1 := by rw [List.length_append, hlk'.out]; rfl
            have hr8 : ∀ x ∈ l ++ [r], x.length = d := fun x hr => by
              rcases List.mem_append.1 hr with h | h
              · exact hrl'.out x h
              · rw [List.mem_singleton.1 h]; exact hrd.out
            have hB8 : BM (pB (k + 1)) (l ++ [r]) := fun x hr => by
              rcases List.mem_append.1 hr with h | h
              · exact fun q hq => Nat.le_trans (hBM'.out x h q hq) (pB_mono (by omega))
              · rw [List.mem_singleton.1 h]; exact hrB.out
            go_roundw
            case rel => exact ⟨i, k + 1, oo2, co2, _, by go_num, by go_num, hl8, by omega, by omega, hr8, hB8, hO7, ht8, hE8⟩
            case measure => simp [intOf]
    · have hc := hO.lenCap
      have hb := pB_mono (show k <= 8 by omega)
      rw [pB_8] at hb
      have hi0 : i = 0 := by omega
      subst hi0
      go_wp2_with fail
      go_ret
      exact ⟨hE, oo, l, co, by rw [hlk]; rfl, by omega, by omega, by omega, hrl, fun r hr q hq => Nat.le_trans (hBM r hr q hq) hb, htr, hO⟩
end Go.Proofs.YthipmbmjodhiiaaGreat
namespace Go.Rep
open Go.RowKit Go.Lim
theorem OL.toRV {X : Nat -> Bool} {base : Nat} {e : TypeId} {w : World} {ao : Option Addr} {cap : Nat} {l : List (List Rat)} (h : OL RC 1 X base e w ao cap l) (hb : BM 68719476736 l) : OL RV 1 X base e w ao cap l := by
  obtain ⟨hx, us, h1, h2, h22, h3, h5⟩ := h
  exact ⟨hx, us, h1, h2, h22, h3, fun i hi hi' => RC.rv (h5 i hi hi') (hb _ (List.getElem_mem _))⟩
theorem BM.le {B C : Nat} {m : List (List Rat)} (h : BM B m) (hBC : B <= C) : BM C m := fun r hr q hq => Nat.le_trans (h r hr q hq) hBC
theorem BM.set {B : Nat} {m : List (List Rat)} (h : BM B m) {r : List Rat} (hr : BR B r) (i : Nat) : BM B (m.set i r) := fun x hx => by
  rcases List.mem_or_eq_of_mem_set hx with hx | rfl
  · exact h x hx
  · exact hr
end Go.Rep
namespace Go.Proofs.YthipmbmjodhiiaaGreat
open Go.RowKit Go.Rep Go.Lim
def TAnyOut (X : Nat -> Bool) (tb : Nat) (n : Nat) (w : World) (e : Ending) (w' : World) : Prop := ExtX (tbm tb) w w' /\ TapeR X tb w' /\ ∃ v l, e = .returned v /\ MV (mk X w') v l /\ BM 510 l /\ (l.length <= n \/ l.length = 65) /\ ∀ r ∈ l, r.length <= 4
theorem tany_finV {X : Nat -> Bool} {tb n k b co : Nat} {T : TypeId} {w wz : World} {oo : Option Addr} {l : List (List Rat)} (hE : ExtX (tbm tb) w wz) (ht : TapeR (un X oo) tb wz) (htX : X tb = true) (hO : OL RV 1 X b T wz oo co l) (hB : BM 510 l) (hl : k <= n \/ k = 65) (hr : ∀ r ∈ l, r.length <= 4) (hk : l.length = k) : TAnyOut X tb n w (.returned (.slice oo k co)) wz := by
  subst hk
  exact ⟨hE, ht.unX htX, _, l, rfl, ⟨oo, co, rfl, hO.lenCap, hO.sl RV.elem⟩, hB, hl, hr⟩
theorem tany_fin {X : Nat -> Bool} {tb n k b co : Nat} {T : TypeId} {w wz : World} {oo : Option Addr} {l : List (List Rat)} (hE : ExtX (tbm tb) w wz) (ht : TapeR (un X oo) tb wz) (htX : X tb = true) (hO : OL RC 1 X b T wz oo co l) (hB : BM 510 l) (hl : k <= n \/ k = 65) (hr : ∀ r ∈ l, r.length <= 4) (hk : l.length = k) : TAnyOut X tb n w (.returned (.slice oo k co)) wz :=
  tany_finV hE ht htX (hO.toRV (hB.le (by omega))) hB hl hr hk
set_option maxRecDepth 100000 in
set_option maxHeartbeats 3200000 in
theorem tany_any (X : Nat -> Bool) (tb n : Nat) (w : World) (ht : TapeR X tb w) (hX : HX X w) (hn1 : 1 <= n) (hn : n <= 8) :
    Calls Tryz.prog 24 #[.pointer (some ⟨tb, 0, none⟩), .int .i64 (n : Int)] w (TAnyOut X tb n w) := by
  have hsub := tbm_sub ht.1
  have htX := ht.1
  go_enter Tryz.func24, Tryz.ntmps24
  go_wp2_with fail
  refine (next_any X tb 3 _ ht (by omega)).mono ?_
  rintro e w1 ⟨hE1, ht1, d, rfl, hd⟩
  have hd1 : (1 + (d : Int)) = ((d + 1 : Nat) : Int) := by omega
  go_wp2_with fail
  refine (tpoints_any X tb n (d + 1) w1 ht1 (hX.ext hE1) hn1 hn (by omega)).mono ?_
  rintro e w2 ⟨hE2, oo, l, co, rfl, hlc, hl1, hln, hrl, hBM, ht2, hO2⟩
  have hF2 := hE1.trans hE2
  have hO := hO2.base_le (b' := w.heap.size) hE1.size
  have hr4 : ∀ r ∈ l, r.length <= 4 := fun r hr => by have := hrl r hr; omega
  obtain ⟨k, hk⟩ : ∃ k, l.length = k := ⟨_, rfl⟩
  have hk' := hid hk
  rw [hk] at hlc hl1 hln |-
  clear hO2 hE2 hE1 ht1 hk hd1
  go_wp2_with fail
  refine (next_any (un X oo) tb 14 _ ht2 (by omega)).mono ?_
  rintro e w3 ⟨hE3, ht3, m, rfl, hm⟩
  have hO3 := hO.ext RC.elem hE3 (fun k _ hk => hsub k hk) (fun _ _ h => h)
  have hF3 := hF2.trans hE3
  have hX3 := hX.ext hF3
  clear hO hF2 ht2 hE3
  have hcase : m = 9 \/ m = 10 \/ m = 11 \/ m = 12 \/ m = 13 \/ (m ≠ 9 /\ m ≠ 10 /\ m ≠ 11 /\ m ≠ 12 /\ m ≠ 13) := by omega
  rcases hcase with rfl | rfl | rfl | rfl | rfl | hno
  · go_wp2_with fail
    go_ret
    exact ⟨hF3, ht3.unX htX, _, [], rfl, SlV.zero _ _ _, fun r hr => by simp at hr, .inl (by simp), fun r hr => by simp at hr⟩
  · go_wp2_with fail
    refine (next_any (un X oo) tb k w3 ht3 (by omega)).mono ?_
    rintro e w4 ⟨hE4, ht4, i, rfl, hi⟩
    go_wp2_with fail
    refine (next_any (un X oo) tb 5 w4 ht4 (by omega)).mono ?_
    rintro e w5 ⟨hE5, ht5, c, rfl, hc⟩
    have hO5 := (hO3.ext RC.elem hE4 (fun k _ hk => hsub k hk) (fun _ _ h => h)).ext RC.elem hE5 (fun k _ hk => hsub k hk) (fun _ _ h => h)
    have hF5 := (hF3.trans hE4).trans hE5
    have hXu5 := hO5.unX (hX.ext hF5)
    go_wp2_with fail
    refine (trow_any (un X oo) tb c w5 ht5 hXu5 (by omega)).mono ?_
    rintro e w6 ⟨hE6, po, p, pc, rfl, hpl, hpc, hpB, ht6, hP⟩
    have hO6 := hO5.ext RC.elem hE6 (fun k _ hk => hsub k hk) (fun _ _ h => h)
    have hF6 := hF5.trans hE6
    have hRC : RC (mk (un X oo) w6) (.slice po c pc) p := ⟨po, pc, by rw [hpl], by rw [hpl]; exact hpc, hP.sl QC.elem⟩
    have ht6u : TapeR (un X oo) tb w6 := ht6.unX (un_left htX)
    have hik : i < k := by omega
    have hil : i < l.length := by rw [hk'.out]; exact hik
    have hhd := hO6.hd
    rw [hk'.out] at hhd
    have hls : (l.set i p).length = k := by rw [List.length_set]; exact hk'.out
    have hBs : BM 510 (l.set i p) := hBM.set (fun q hq => Nat.le_trans (hpB q hq) (by omega)) i
    have hrs : ∀ r ∈ l.set i p, r.length <= 4 := fun r hr => by
      rcases List.mem_or_eq_of_mem_set hr with hr | rfl
      · exact hr4 r hr
      · omega
    clear hO3 ht3 hF3 hE4 hE5 hO5 hF5 hXu5 ht5 hE6 ht6 hP hX3 ht4
    go_wp2_with (first
      | (with_reducible refine up_ix1 slRats (by omega) (by assumption) ?_)
      | ((with_reducible show wpList _ _ _ (⟨_, .store _ _ _, _, _, _, _⟩ :: _) _ _); refine st_store tyRats RC.elem i rfl (by simp) hO6 hil _ p rfl hRC ?_; intro w7 hO7 hE7))
    have hF7 := hF6.own hO6 (Nat.le_refl _) hE7
    have ht7 := ht6u.unstep (hO6.not_ob htX) hE7 (.inl rfl)
    go_ret
    exact tany_fin hF7 ht7 htX hO7 hBs (.inl hln) hrs hls
  · have ht3X := ht3.unX htX
    go_wp2_with fail
    refine (lit_pick X tb [0, 4] _ _ _ w3 0 4 ht3X hX3 rfl rfl (by simp) (by simp) (hid (by simp))).mono ?_
    rintro e w4 ⟨hE4, ht4, x, rfl, hx1, hx2⟩
    obtain ⟨c, rfl⟩ := Int.eq_ofNat_of_zero_le hx1
    have hF4 := hF3.trans hE4
    go_wp2_with fail
    refine (trow_any X tb c w4 ht4 (hX.ext hF4) (by omega)).mono ?_
    rintro e w5 ⟨hE5, po, p, pc, rfl, hpl, hpc, hpB, ht5, hP⟩
    have hF5 := hF4.trans hE5
    have hX5 := hX.ext hF5
    have hRC : RC (mk X w5) (.slice po c pc) p := ⟨po, pc, by rw [hpl], by rw [hpl]; exact hpc, hP.sl QC.elem⟩
    have hL := lit_rows X w5 po c pc p 27 hX5 hRC
    have htL := (ht5.unX htX).old (oo := some ⟨w5.heap.size, 0, none⟩) ((ExtX.refl (Y := noY) w5).alloc (.cells #[.slice po c pc] 27)) (ob_new w5)
    have hFL : ExtX (tbm tb) w (w5.alloc (.cells #[.slice po c pc] 27)) := hF5.alloc _
    go_wp2_with fail
    go_ret
    exact tany_fin hFL htL htX hL (fun r hr q hq => by rw [List.mem_singleton.1 hr] at hq; exact Nat.le_trans (hpB q hq) (by omega)) (.inl hn1) (fun r hr => by rw [List.mem_singleton.1 hr]; omega) rfl
  · go_wp2_with fail
    go_loopw [5] (fun s wr => ∃ (q : Nat) (ao : Option Addr) (ca : Nat) (m : List (List Rat)), s = .slice ao q ca /\ m.length = q /\ 1 <= q /\ q <= 65 /\ BM 510 m /\ (∀ r ∈ m, r.length <= 4) /\ OL RC 1 X w.heap.size 27 wr ao ca m /\ TapeR (un X ao) tb wr /\ ExtX (tbm tb) w wr) (fun s _ => 65 - lenOf s)
    case atStart => exact ⟨k, oo, co, l, rfl, hk'.out, hl1, by omega, hBM, hr4, hO3, ht3, hF3⟩
    case round =>
      clear hO3 ht3 hF3 hX3
      obtain ⟨q, ao, ca, m, rfl, hmq, hq1, hq65, hB, hr, hO, htr, hE⟩ := hrel
      have hXr := hX.ext hE
      have hb := hE.size
      by_cases hlt : q < 65
      · have h0 : 0 < m.length := by omega
        obtain ⟨u, hc, _, hru⟩ := hO.cell SlV.one 0 h0
        obtain ⟨a0, c0, rfl, hcl0, hs0⟩ := hru
        have hhd := hO.hd
        rw [hmq] at hhd
        have hr0 := hr m[0] (List.getElem_mem _)
        have hB0 := hB m[0] (List.getElem_mem _)
        have hRC : RC (mk (un X ao) wr) (.slice a0 m[0].length c0) m[0] := ⟨a0, c0, rfl, hcl0, hs0⟩
        obtain ⟨r, hre⟩ : ∃ r, m[0] = r := ⟨_, rfl⟩
        rw [hre] at hc hr0 hB0 hRC
        obtain ⟨d0, hd0⟩ : ∃ d0, r.length = d0 := ⟨_, rfl⟩
        rw [hd0] at hc hRC
        have hmq' := hid hmq
        have hl2 : (m ++ [r]).length = q + 1 := by rw [List.length_append, hmq]; rfl
        have hB2 : BM 510 (m ++ [r]) := fun x hx => by
          rcases List.mem_append.1 hx with h | h
          · exact hB x h
          · rw [List.mem_singleton.1 h]; exact hB0
        have hr2 : ∀ x ∈ m ++ [r], x.length <= 4 := fun x hx => by
          rcases List.mem_append.1 hx with h | h
          · exact hr x h
          · rw [List.mem_singleton.1 h]; exact hr0
        clear hs0 hcl0 hre hd0 hmq h0
        go_wp2_with (first
          | (with_reducible refine up_ix1 slRats (by omega) (by assumption) ?_)
          | (at_builtin; refine st_append1n (l := m) slRats rfl RC.elem hb hXr q hmq'.out rfl rfl hO (.slice a0 d0 c0) r rfl hRC (by omega) (by omega) ?_; intro oo2 co2 w7 hO7 hE7 hor))
        have hE8 := hE.own hO (Nat.le_refl _) hE7
        have ht8 := htr.unstep (hO.not_ob htX) hE7 hor
        go_roundw
        case rel => exact ⟨q + 1, oo2, co2, _, by go_num, hl2, by omega, by omega, hB2, hr2, hO7, ht8, hE8⟩
        case measure => simp [lenOf]; omega
      · have hq : q = 65 := by omega
        subst hq
        go_wp2_with fail
        go_ret
        exact tany_fin hE htr htX hO hB (.inr rfl) hr hmq
  · have hhd := hO3.hd
    rw [hk'.out] at hhd
    have h0 : 0 < l.length := by rw [hk'.out]; omega
    obtain ⟨u, hc, _, hru⟩ := hO3.cell SlV.one 0 h0
    obtain ⟨a0, c0, rfl, hcl0, hs0⟩ := hru
    have hd0 := hrl l[0] (List.getElem_mem _)
    obtain ⟨dd, hdd⟩ : ∃ dd, d + 1 = dd := ⟨_, rfl⟩
    have hdd4 : dd <= 4 := by omega
    rw [hd0, hdd] at hc
    clear hdd
    have hobt : ob oo tb = false := hO3.not_ob htX
    have htd : TapeR (un X oo) tb w3.drew := ht3.ext (ExtX.refl _).drew
    have hS : Hid (∀ w', ExtX (tbm tb) w3.drew w' -> w'.cell? (adr oo 0) = some (.slice a0 dd c0)) := hid fun w' h => h.cellY (show w3.drew.cell? _ = _ from hc) (tbm_ne (ob_adr hhd (by omega) hobt))
    have k0 := hS.out _ (ExtX.refl _)
    have i1 : ∀ m, m < k -> ∀ W, (Instr.indexAt 25 (.slice oo k co) (.int .i64 (m : Int))).run Tryz.prog W = .ok (.pointer (some (adr oo m))) W := fun m hm => run_ix1 slRats oo k co .i64 m hhd hm rfl
    have i1' := hid i1
    have i0 : ∀ W, (Instr.indexAt 25 (.slice oo k co) (.int .i64 0)).run Tryz.prog W = .ok (.pointer (some (adr oo 0))) W := i1 0 (by omega)
    have hkb : (k : Int) <= 1099511627776 := by omega
    have hOd := hO3.ext0 RC.elem (ExtX.refl _).drew
    have hFd : ExtX (tbm tb) w w3.drew := hF3.drew
    clear hs0 hcl0 hd0 i1 h0 hO3 hF3 ht3 hX3
    go_wp2_with fail
    refine wp_region_K 12 (fun w' => w'.cell? (adr oo 0) = some (.slice a0 dd c0)) (by kernel_rfl) (by kernel_rfl) (hS.out _ (ExtX.refl _)) (fun hHeld hOnce => ?_)
    clear k0
    refine wpAnyK_take hOnce (i := 0) (oi := ⟨_, _, _, _, _, _⟩) (v := ?_) rfl (by kernel_rfl) (fun _ _ _ h => h) (by assumption) (by rfl) (fun w hSw => ?_) ?_
    rotate_left
    · (try dsimp only at hSw)
      go_simp
      all_goals with_reducible rfl
    (try simp only [Act.put, List.setIfInBounds_toArray, List.set_cons_zero, List.set_cons_succ])
    refine wpAnyK_take hOnce (i := 1) (oi := ⟨_, _, _, _, _, _⟩) (v := ?_) rfl (by kernel_rfl) (fun _ _ _ h => h) (by assumption) (by rfl) (fun w hSw => ?_) ?_
    rotate_left
    · (try dsimp only at hSw)
      go_simp
      all_goals with_reducible rfl
    (try simp only [Act.put, List.setIfInBounds_toArray, List.set_cons_zero, List.set_cons_succ])
    refine wpAnyK_take hOnce (i := 2) (oi := ⟨_, _, _, _, _, _⟩) (v := ?_) rfl (by kernel_rfl) (fun _ _ _ h => h) (by assumption) (by rfl) (fun w hSw => ?_) ?_
    rotate_left
    · (try dsimp only at hSw)
      go_simp
      all_goals with_reducible rfl
    (try simp only [Act.put, List.setIfInBounds_toArray, List.set_cons_zero, List.set_cons_succ])
    refine wpAnyK_take hOnce (i := 3) (oi := ⟨_, _, _, _, _, _⟩) (v := ?_) rfl (by kernel_rfl) (fun _ _ _ h => h) (by assumption) (by rfl) (fun w hSw => ?_) ?_
    rotate_left
    · (try dsimp only at hSw)
      go_simp
      all_goals with_reducible rfl
    (try simp only [Act.put, List.setIfInBounds_toArray, List.set_cons_zero, List.set_cons_succ])
    refine wpAnyK_take hOnce (i := 5) (oi := ⟨_, _, _, _, _, _⟩) (v := ?_) rfl (by kernel_rfl) (fun _ _ _ h => h) (by assumption) (by rfl) (fun w hSw => ?_) ?_
    rotate_left
    · (try dsimp only at hSw)
      go_simp
      all_goals with_reducible rfl
    (try simp only [Act.put, List.setIfInBounds_toArray, List.set_cons_zero, List.set_cons_succ])
    refine wpAnyK_take hOnce (i := 6) (oi := ⟨_, _, _, _, _, _⟩) (v := ?_) rfl (by kernel_rfl) (fun _ _ _ h => h) (by assumption) (by rfl) (fun w hSw => ?_) ?_
    rotate_left
    · (try dsimp only at hSw)
      go_simp
      all_goals with_reducible rfl
    (try simp only [Act.put, List.setIfInBounds_toArray, List.set_cons_zero, List.set_cons_succ])
    refine wpAnyK_take hOnce (i := 7) (oi := ⟨_, _, _, _, _, _⟩) (v := ?_) rfl (by kernel_rfl) (fun _ _ _ h => h) (by assumption) (by rfl) (fun w hSw => ?_) ?_
    rotate_left
    · (try dsimp only at hSw)
      go_simp
      all_goals with_reducible rfl
    (try simp only [Act.put, List.setIfInBounds_toArray, List.set_cons_zero, List.set_cons_succ])
    refine wpAnyK_take hOnce (i := 8) (oi := ⟨_, _, _, _, _, _⟩) (v := ?_) rfl (by kernel_rfl) (fun _ _ _ h => h) (by assumption) (by rfl) (fun w hSw => ?_) ?_
    rotate_left
    · (try dsimp only at hSw)
      go_simp
      all_goals with_reducible rfl
    (try simp only [Act.put, List.setIfInBounds_toArray, List.set_cons_zero, List.set_cons_succ])
    refine wpAnyK_take hOnce (i := 9) (oi := ⟨_, _, _, _, _, _⟩) (v := ?_) rfl (by kernel_rfl) (fun _ _ _ h => h) (by assumption) (by rfl) (fun w hSw => ?_) ?_
    rotate_left
    · (try dsimp only at hSw)
      go_simp
      all_goals with_reducible rfl
    (try simp only [Act.put, List.setIfInBounds_toArray, List.set_cons_zero, List.set_cons_succ])
    refine wpAnyK_step (i := 4) (o := ⟨_, _, _, _, _, _⟩) (by kernel_rfl) rfl (fun K hK => ?_)
    go_simp
    (go_at_call 31; (with_reducible refine (next_any (un X oo) tb k w3.drew htd hkb).mono ?_); rintro ee w4 ⟨t1, ht4, i, rfl, hi⟩)
    refine hK.out _ _ (hS.out w4 t1) (fun hHeld => ?_)
    clear hK K
    (try simp only [Act.put, List.setIfInBounds_toArray, List.set_cons_zero, List.set_cons_succ])
    have hik : i < k := by omega
    have hil : i < l.length := by rw [hk'.out]; exact hik
    have i4 := i1'.out i hik
    have hO4 := hOd.ext RC.elem t1 (fun k _ hk => hsub k hk) (fun _ _ h => h)
    have hF4 := hFd.trans t1
    have hXu4 : HX (un X oo) w4 := hO4.unX (hX.ext hF4)
    have hd4 : dd <= 1000 := by omega
    refine wpAnyK_step (i := 10) (o := ⟨_, _, _, _, _, _⟩) (by kernel_rfl) rfl (fun K hK => ?_)
    go_simp
    (go_at_call 35; (with_reducible refine (toddrow_any (un X oo) tb dd w4 ht4 hXu4 hd4).mono ?_); rintro ee w5 ⟨t2, po, p, pc, rfl, hpl, hpc, hpB, ht5, hP⟩)
    refine hK.out _ _ (hS.out w5 (t1.trans t2)) (fun hHeld => ?_)
    clear hK K
    (try simp only [Act.put, List.setIfInBounds_toArray, List.set_cons_zero, List.set_cons_succ])
    have hO5 := hO4.ext RC.elem t2 (fun k _ hk => hsub k hk) (fun _ _ h => h)
    have hF5 := hF4.trans t2
    have hRV : RV (mk (un X oo) w5) (.slice po dd pc) p := ⟨po, pc, by rw [hpl], by rw [hpl]; exact hpc, hP.sl QV.elem⟩
    have ht5u : TapeR (un X oo) tb w5 := ht5.unX (un_left htX)
    have hO6 := hO5.toRV (hBM.le (by omega))
    obtain ⟨_, q0, f0, _⟩ := hO6.cell SlV.one i hil
    refine wpAnyK_take hOnce (i := 11) (oi := ⟨_, _, _, _, _, _⟩) (v := ?_) rfl (by kernel_rfl) (fun _ _ _ h => h) (by assumption) (by rfl) (fun w hSw => ?_) ?_
    rotate_left
    · (try dsimp only at hSw)
      go_simp
      all_goals with_reducible rfl
    (try simp only [Act.put, List.setIfInBounds_toArray, List.set_cons_zero, List.set_cons_succ])
    refine wpAnyK_last (i := 12) (o := ⟨_, _, _, _, _, _⟩) (by kernel_rfl) rfl (by decide) (by kernel_rfl) (fun K hK => ?_)
    go_simp
    refine hK.out _ _ ?_
    clear hK K
    obtain ⟨hO7, hE7⟩ := hO6.set1 tyRats RV.elem SlV.one i hil (.slice po dd pc) p hRV
    have hF7 := hF5.own hO6 (Nat.le_refl _) hE7
    have ht7 := ht5u.unstep (hO6.not_ob htX) hE7 (.inl rfl)
    have hls : (l.set i p).length = k := by rw [List.length_set]; exact hk'.out
    have hBs : BM 510 (l.set i p) := hBM.set (fun q hq => Nat.le_trans (hpB q hq) (by omega)) i
    have hrs : ∀ r ∈ l.set i p, r.length <= 4 := fun r hr => by
      rcases List.mem_or_eq_of_mem_set hr with hr | rfl
      · exact hr4 r hr
      · omega
    clear q0 f0 i0 i4
    go_wp2_with fail
    go_ret
    exact tany_finV hF7 ht7 htX hO7 hBs (.inl hln) hrs hls
  · obtain ⟨n1, n2, n3, n4, n5⟩ := hno
    have t1 : ((m : Int) == 9) = false := beqF (by omega)
    have t2 : ((m : Int) == 10) = false := beqF (by omega)
    have t3 : ((m : Int) == 11) = false := beqF (by omega)
    have t4 : ((m : Int) == 12) = false := beqF (by omega)
    have t5 : ((m : Int) == 13) = false := beqF (by omega)
    go_wp2_with fail
    go_ret
    exact tany_fin hF3 ht3 htX hO3 hBM (.inl hln) hr4 hk'.out
end Go.Proofs.YthipmbmjodhiiaaGreat
namespace Go.Proofs.YthipmbmjodhiiaaGreat
open Go.RowKit Go.Rep Go.Lim
def TAtOut (X : Nat -> Bool) (tb B L : Nat) (w : World) (e : Ending) (w' : World) : Prop := ExtX (tbm tb) w w' /\ TapeR X tb w' /\ ∃ v y, e = .returned v /\ RV (mk X w') v y /\ BR B y /\ y.length <= L
def midL (a b : List Rat) : List Rat := List.zipWith (fun x y => ((1 : Int) : Rat) / ((2 : Int) : Rat) * (x + y)) a b
theorem hq_mid {x y : Rat} {B : Nat} (hx : hq x <= B) (hy : hq y <= B) : hq (x + y) <= 2 * B + 1 /\ hq (((1 : Int) : Rat) / ((2 : Int) : Rat)) <= 2 /\ hq (((1 : Int) : Rat) / ((2 : Int) : Rat) * (x + y)) <= 2 * B + 3 := by
  have h1 := hq_add x y
  have h2 := hq_frac (a := 1) (k := 2) (by omega) (by omega) (by omega) (by omega)
  have h3 := hq_mul (((1 : Int) : Rat) / ((2 : Int) : Rat)) (x + y)
  omega
theorem midL_br {a b : List Rat} {B : Nat} (ha : BR B a) (hb : BR B b) : BR (2 * B + 3) (midL a b) := fun q hq' => by
  unfold midL at hq'
  obtain ⟨i, hi, rfl⟩ := List.getElem_of_mem hq'
  rw [List.getElem_zipWith]
  simp at hi
  exact (hq_mid (ha _ (List.getElem_mem (by omega))) (hb _ (List.getElem_mem (by omega)))).2.2
set_option maxRecDepth 100000 in
set_option maxHeartbeats 3200000 in
theorem tat_any (X : Nat -> Bool) (tb : Nat) (w : World) (u : Value) (m : List (List Rat)) (B L : Nat) (ht : TapeR X tb w) (hX : HX X w) (hu : MV (mk X w) u m) (hm : m.length <= 1000) (hB : BM B m) (hL : ∀ r ∈ m, r.length <= L) (hBB : B <= 1000000000) (hL4 : 4 <= L) (hLL : L <= 1000) :
    Calls Tryz.prog 16 #[.pointer (some ⟨tb, 0, none⟩), u] w (TAtOut X tb (2 * B + 3) L w) := by
  have hsub := tbm_sub ht.1
  have htX := ht.1
  obtain ⟨po, pc, rfl, hpc, hpp⟩ := hu
  obtain ⟨f, hf⟩ := hpp.rowsF
  have hhd := hpp.hd
  obtain ⟨g, hg⟩ : ∃ g : Nat -> Nat, ∀ j (hj : j < m.length), m[j].length = g j := ⟨fun j => (m.getD j []).length, fun j hj => by simp [List.getD_eq_getElem?_getD, hj]⟩
  have hgd := hid hg
  obtain ⟨k, hk⟩ : ∃ k, m.length = k := ⟨_, rfl⟩
  have hk' := hid hk
  have hB' := hid hB
  have hL' := hid hL
  have hf' := hid hf
  have hpp' := hid hpp
  rw [hk] at hpc hhd hm |-
  clear hk hB hL hf hpp hg
  have hodd : Hid (∀ w1, ExtX (tbm tb) w w1 -> TapeR X tb w1 -> ∀ c : Nat, c < 5 -> Calls Tryz.prog 35 #[.pointer (some ⟨tb, 0, none⟩), .int .i64 (c : Int)] w1 (fun e w' => TAtOut X tb (2 * B + 3) L w e w' /\ ∃ ao n cap, e = .returned (.slice ao n cap))) := hid fun w1 hE1 ht1 c hc => by
    refine (toddrow_any X tb c w1 ht1 (hX.ext hE1) (by omega)).mono ?_
    rintro e w2 ⟨hE2, ao, l, cap, rfl, hl, hcap, hB2, ht2, hO2⟩
    exact ⟨⟨hE1.trans hE2, ht2.unX htX, _, l, rfl, ⟨ao, cap, by rw [hl], by omega, hO2.sl QV.elem⟩, fun q hq => Nat.le_trans (hB2 q hq) (by omega), by omega⟩, _, _, _, rfl⟩
  by_cases h0 : k = 0
  · have t0 : ((k : Int) == 0) = true := beqT (by omega)
    go_enter Tryz.func16, Tryz.ntmps16
    go_wp2_with fail
    refine (next_any X tb 5 _ ht (by omega)).mono ?_
    rintro e w1 ⟨hE1, ht1, c, rfl, hc⟩
    go_wp2_with fail
    refine (hodd.out w1 hE1 ht1 c (by omega)).mono ?_
    rintro e w2 ⟨h2, ao, n, cap, rfl⟩
    go_wp2_with fail
    go_ret
    exact h2
  have t0 : ((k : Int) == 0) = false := beqF (by omega)
  go_enter Tryz.func16, Tryz.ntmps16
  go_wp2_with fail
  refine (tbool_any X tb 12 _ ht (by omega) (by omega)).mono ?_
  rintro e w1 ⟨hE1, ht1, b1, rfl⟩
  cases b1
  rotate_left 1
  · go_wp2_with fail
    refine (next_any X tb 5 _ ht1 (by omega)).mono ?_
    rintro e w2 ⟨hE2, ht2, c, rfl, hc⟩
    go_wp2_with fail
    refine (hodd.out w2 (hE1.trans hE2) ht2 c (by omega)).mono ?_
    rintro e w3 ⟨h3, ao, n, cap, rfl⟩
    go_wp2_with fail
    go_ret
    exact h3
  clear hodd
  have hbt : Hid (∀ j, j < k -> (adr po j).block ≠ tb) := hid fun j hj => by
    obtain ⟨u, h1, _⟩ := hpp'.out.cell SlV.one j (by rw [hk'.out]; exact hj)
    intro he
    simp [mk, he, htX] at h1
  have hS : Hid (∀ w', ExtX (tbm tb) w1.drew w' -> ∀ j, j < k -> w'.cell? (adr po j) = some (.slice (f j).1 (g j) (f j).2)) := hid fun w' h j hj => by
    have hjl : j < m.length := by rw [hk'.out]; exact hj
    have h1 := mk_cell (hf'.out j hjl).1
    rw [hgd.out j hjl] at h1
    exact (hE1.drew.trans h).cellY h1 (tbm_ne (hbt.out j hj))
  have htd : TapeR X tb w1.drew := ht1.ext (ExtX.refl _).drew
  have i1 : ∀ j, j < k -> ∀ W, (Instr.indexAt 25 (.slice po k pc) (.int .i64 (j : Int))).run Tryz.prog W = .ok (.pointer (some (adr po j))) W := fun j hj => run_ix1 slRats po k pc .i64 j hhd hj rfl
  have i1' := hid i1
  have hkb : (k : Int) <= 1099511627776 := by omega
  clear i1
  go_wp2_with fail
  go_region_held3 (fun w' => ∀ j, j < k -> w'.cell? (adr po j) = some (.slice (f j).1 (g j) (f j).2))
    (first | exact hS.out _ (ExtX.refl _) | exact hS.out _ t1 | exact hS.out _ (t1.trans t2) | go_keep)
    (first | (go_at_call 31; (with_reducible refine (next_any X tb k w1.drew htd hkb).mono ?_); rintro ee w4 ⟨t1, ht4, m4, rfl, hm4⟩; have hm4k : m4 < k := (by omega); have i4 := i1'.out m4 hm4k) | (go_at_call 31; (with_reducible refine (next_any X tb k w4 ht4 hkb).mono ?_); rintro ee w5 ⟨t2, ht5, m5, rfl, hm5⟩; have hm5k : m5 < k := (by omega); have i5 := i1'.out m5 hm5k) | fail)
  have hla : m4 < m.length := by rw [hk'.out]; exact hm4k
  have hlb : m5 < m.length := by rw [hk'.out]; exact hm5k
  have hE5 : ExtX (tbm tb) w w5 := hE1.trans (((ExtX.refl _).drew).trans (t1.trans t2))
  obtain ⟨_, hca, hsa⟩ := hf'.out m4 hla
  obtain ⟨_, hcb, hsb⟩ := hf'.out m5 hlb
  have hBa := hid (hB'.out _ (List.getElem_mem hla))
  have hBb := hid (hB'.out _ (List.getElem_mem hlb))
  have hLa := hL'.out _ (List.getElem_mem hla)
  have hLb := hL'.out _ (List.getElem_mem hlb)
  have ga := hgd.out m4 hla
  have gb := hgd.out m5 hlb
  obtain ⟨ra, hra⟩ : ∃ ra, m[m4] = ra := ⟨_, rfl⟩
  obtain ⟨rb, hrb⟩ : ∃ rb, m[m5] = rb := ⟨_, rfl⟩
  obtain ⟨⟨aa, ac⟩, hfa⟩ : ∃ q, f m4 = q := ⟨_, rfl⟩
  obtain ⟨⟨ba, bc⟩, hfb⟩ : ∃ q, f m5 = q := ⟨_, rfl⟩
  rw [hra] at hca hsa hBa hLa ga
  rw [hrb] at hcb hsb hBb hLb gb
  rw [hfa] at hca hsa
  rw [hfb] at hcb hsb
  dsimp only at hca hcb hsa hsb
  obtain ⟨da, hda⟩ : ∃ da, ra.length = da := ⟨_, rfl⟩
  obtain ⟨db, hdb⟩ : ∃ db, rb.length = db := ⟨_, rfl⟩
  have hda' := hid hda
  have hdb' := hid hdb
  have hha := hsa.hd
  have hhb := hsb.hd
  rw [hda] at hca hLa hha ga
  rw [hdb] at hcb hLb hhb gb
  have ga' := hid ga
  have gb' := hid gb
  have hfa' := hid hfa
  have hfb' := hid hfb
  have hX5 := hX.ext hE5
  have hsa5 := hsa.mono QV.mono (mk_mono hE5 hsub)
  have hsb5 := hsb.mono QV.mono (mk_mono hE5 hsub)
  clear hra hrb hfa hfb hS hbt htd ht4 i4 i5 hm4 hm5 t1 t2 hE1 ht1 hsa hsb hda hdb i1' ht ga gb
  rw [hfa'.out, hfb'.out, <- ga'.out, <- gb'.out]
  dsimp only
  go_wp2_with fail
  have hrow : Hid (∀ w1, ExtX (tbm tb) w w1 -> TapeR X tb w1 -> Calls Tryz.prog 17 #[.pointer (some ⟨tb, 0, none⟩), .int .i64 (da : Int)] w1 (fun e w' => TAtOut X tb (2 * B + 3) L w e w' /\ ∃ ao n cap, e = .returned (.slice ao n cap))) := hid fun w1 hE1 ht1 => by
    refine (trow_any X tb da w1 ht1 (hX.ext hE1) (by omega)).mono ?_
    rintro e w2 ⟨hE2, ao, l, cap, rfl, hl, hcap, hB2, ht2, hO2⟩
    have hRC : RC (mk X w2) (.slice ao da cap) l := ⟨ao, cap, by rw [hl], by omega, hO2.sl QC.elem⟩
    exact ⟨⟨hE1.trans hE2, ht2.unX htX, _, l, rfl, hRC.rv (fun q hq => Nat.le_trans (hB2 q hq) (by omega)), fun q hq => Nat.le_trans (hB2 q hq) (by omega), by omega⟩, _, _, _, rfl⟩
  refine (tbool_any X tb 3 _ ht5 (by omega) (by omega)).mono ?_
  rintro e w6 ⟨hE6, ht6, b2, rfl⟩
  have hF6 := hE5.trans hE6
  cases b2
  rotate_left 1
  · go_wp2_with fail
    refine (hrow.out w6 hF6 ht6).mono ?_
    rintro e w7 ⟨h7, ao, n, cap, rfl⟩
    go_wp2_with fail
    go_ret
    exact h7
  by_cases hab : da = db
  rotate_left 1
  · have t1 : ((da : Int) != (db : Int)) = true := bneT (by omega)
    go_wp2_with fail
    refine (hrow.out w6 hF6 ht6).mono ?_
    rintro e w7 ⟨h7, ao, n, cap, rfl⟩
    go_wp2_with fail
    go_ret
    exact h7
  have t1 : ((da : Int) != (db : Int)) = false := bneF (by omega)
  have hab' := hid hab
  have hab1 : da <= db := by omega
  have hab2 : db <= da := by omega
  clear hab hrow
  go_wp2_with fail
  refine (tbool_any X tb 2 _ ht6 (by omega) (by omega)).mono ?_
  rintro e w7 ⟨hE7, ht7, b3, rfl⟩
  have hF7 := hF6.trans hE7
  have hX7 := hX.ext hF7
  have hsa7 := hsa5.mono QV.mono (mk_mono (hE6.trans hE7) hsub)
  have hsb7 := hsb5.mono QV.mono (mk_mono (hE6.trans hE7) hsub)
  clear hE5 hE6 hE7 ht5 ht6 hF6 hsa5 hsb5
  cases b3
  rotate_left 1
  · go_wp2_with (at_builtin; refine st_copyNil slRat rfl QV.elem w7.heap.size (Nat.le_refl _) hX7 ra da hda'.out rfl rfl hsa7 (by omega) (by omega) ?_; intro po5 pc5 w8 hO8 hc8 hE8)
    go_ret
    exact ⟨hF7.trans (ExtX.of hE8), ht7.ext hE8, _, ra, rfl, ⟨po5, pc5, by rw [hda'.out]; rfl, by rw [hda'.out]; exact hc8, hO8.sl QV.elem⟩, fun q hq => Nat.le_trans (hBa.out q hq) (by omega), by rw [hda'.out]; exact hLa⟩
  have hml : Hid ((midL ra rb).length = da) := hid (by unfold midL; simp [hda'.out, hdb'.out, hab'.out])
  obtain ⟨M, hM⟩ : ∃ M, midL ra rb = M := ⟨_, rfl⟩
  have hMB : BR (2 * B + 3) M := by rw [<- hM]; exact midL_br hBa.out hBb.out
  have hMi := hid (show ∀ j (h1 : j < ra.length) (h2 : j < rb.length) (h3 : j < M.length), M[j] = ((1 : Int) : Rat) / ((2 : Int) : Rat) * (ra[j] + rb[j]) from fun j h1 h2 h3 => by subst hM; simp [midL])
  rw [hM] at hml
  clear hM
  have hMl1 : M.length <= da := by rw [hml.out]; exact Nat.le_refl _
  have hMl2 : da <= M.length := by rw [hml.out]; exact Nat.le_refl _
  obtain ⟨wo, hwo⟩ : ∃ wo, wo = w7 := ⟨_, rfl⟩
  subst hwo
  go_wp2_with fail
  go_loopw [7, 55] (fun o cc wr => ∃ (j : Nat) (oo : Option Addr) (co : Nat), cc = .int .i64 j /\ o = .slice oo j co /\ j <= da /\ OL QC 3 X wo.heap.size 34 wr oo co (M.take j) /\ Ext wo wr) (fun _ cc _ => da - (intOf cc).toNat)
  case atStart => exact ⟨0, none, 0, rfl, rfl, Nat.zero_le _, OL.nil _ _ _ _ _ _, ExtX.refl _⟩
  case round =>
    obtain ⟨j, oo, co, rfl, rfl, hj, hO, hE⟩ := hrel
    have hXr : HX X wr := hX7.ext hE
    have hXu : HX (un X oo) wr := hO.unX hXr
    have hbase := hE.size
    by_cases hlt : j < da
    · have hja : j < ra.length := by rw [hda'.out]; exact hlt
      have hjb : j < rb.length := by rw [hdb'.out]; omega
      have hsr : Sl QV 3 (mk (un X oo) wr) aa ra := hsa7.old QV.mono hE (fun j hj => hO.ob_lt hj)
      have hsr2 : Sl QV 3 (mk (un X oo) wr) ba rb := hsb7.old QV.mono hE (fun j hj => hO.ob_lt hj)
      have hltM : j < M.length := by omega
      have htk := hid (take_snoc M j hltM)
      have hln := hid (len_take (l := M) (i := j) (by omega))
      obtain ⟨g1, o1, s1, a1, n1, c1, d1, k1, e1, hg1, hX1, hc1, hq1⟩ := hsr.rat QV.shaped j hja
      obtain ⟨g2, o2, s2, a2, n2, c2, d2, k2, e2, hg2, hX2, hc2, hq2⟩ := hsr2.rat QV.shaped j hjb
      have hob1 := (un_false hX1).2
      have hob2 := (un_false hX2).2
      have i1 : ∀ W, (Instr.indexAt 27 (.slice aa da ac) (.int .i64 (j : Int))).run Tryz.prog W = .ok (.pointer (some ⟨g1, o1, none⟩)) W := by rw [<- hg1]; exact run_indexAt_adr slRat aa da ac .i64 j hha (by omega)
      have i2 : ∀ W, (Instr.indexAt 27 (.slice ba db bc) (.int .i64 (j : Int))).run Tryz.prog W = .ok (.pointer (some ⟨g2, o2, none⟩)) W := by rw [<- hg2]; exact run_indexAt_adr slRat ba db bc .i64 j hhb (by omega)
      have hbx := hid (hBa.out _ (List.getElem_mem hja))
      have hby := hid (hBb.out _ (List.getElem_mem hjb))
      have hMj := hMi.out j hja hjb hltM
      obtain ⟨x, hx⟩ : ∃ x, ra[j] = x := ⟨_, rfl⟩
      obtain ⟨y, hy⟩ : ∃ y, rb[j] = y := ⟨_, rfl⟩
      rw [hx] at hq1 hbx hMj
      rw [hy] at hq2 hby hMj
      rw [hMj] at htk
      obtain ⟨h, hh⟩ : ∃ h, ((1 : Int) : Rat) / ((2 : Int) : Rat) = h := ⟨_, rfl⟩
      have hmb := hid (hq_mid hbx.out hby.out)
      have hfr := hid (fun W (hW : HX (un X oo) W) => rqfraction (un X oo) W 1 2 hW (by decide) (by decide) (by decide) (by decide) (by decide) (Nat.le_trans (lgI (by decide) (by decide)) (by decide)) (Nat.le_trans (lgI (by decide) (by decide)) (by decide)))
      rw [hh] at htk hmb hfr
      have hsq : Hid (hq (x + y) <= 68719476736) := hid (by have := hmb.out.1; omega)
      have hhq : Hid (hq h <= 68719476736) := hid (by have := hmb.out.2.1; omega)
      have hEd : Ext wr wr.drew := (ExtX.refl wr).drew
      have hS : Hid (∀ Y W', ExtX Y wr.drew W' -> Y g1 = false -> Y g2 = false -> W'.cell? ⟨g1, o1, none⟩ = some (.bool s1) /\ W'.cell? ⟨g1, o1 + 1, none⟩ = some (.slice a1 n1 c1) /\ W'.cell? ⟨g1, o1 + 2, none⟩ = some (.slice d1 k1 e1) /\ W'.cell? ⟨g2, o2, none⟩ = some (.bool s2) /\ W'.cell? ⟨g2, o2 + 1, none⟩ = some (.slice a2 n2 c2) /\ W'.cell? ⟨g2, o2 + 2, none⟩ = some (.slice d2 k2 e2)) := hid fun Y W' h hg hb => by
        have p1 := hc1.out Y W' ((ExtX.of hEd).trans h) hg
        have p2 := hc2.out Y W' ((ExtX.of hEd).trans h) hb
        exact ⟨p1.1, p1.2.1, p1.2.2, p2.1, p2.2.1, p2.2.2⟩
      obtain ⟨k00, k01, k02, k10, k11, k12⟩ := hS.out noY wr.drew (ExtX.refl _) rfl rfl
      have hxd : QV (mk (un X oo) wr.drew) (.agg #[.bool s1, .slice a1 n1 c1, .slice d1 k1 e1]) x := hq1
      have hyd : QV (mk (un X oo) wr.drew) (.agg #[.bool s2, .slice a2 n2 c2, .slice d2 k2 e2]) y := hq2
      have hXd : HX (un X oo) wr.drew := hXu
      clear hc1 hg1 hq1 hc2 hg2 hq2 hx hy hMj hh
      go_wp2_with fail
      go_region_held3 (fun w' => w'.cell? ⟨g1, o1, none⟩ = some (.bool s1) /\ w'.cell? ⟨g1, o1 + 1, none⟩ = some (.slice a1 n1 c1) /\ w'.cell? ⟨g1, o1 + 2, none⟩ = some (.slice d1 k1 e1) /\ w'.cell? ⟨g2, o2, none⟩ = some (.bool s2) /\ w'.cell? ⟨g2, o2 + 1, none⟩ = some (.slice a2 n2 c2) /\ w'.cell? ⟨g2, o2 + 2, none⟩ = some (.slice d2 k2 e2))
        (first | exact hS.out (ob oo) _ ((ExtX.of t123).trans hE7) hob1 hob2 | exact hS.out noY _ (ExtX.alloc t123 _) rfl rfl | exact hS.out noY _ t123 rfl rfl | exact hS.out noY _ t12 rfl rfl | exact hS.out noY _ t1 rfl rfl | go_keep)
        (first
          | (go_at_call 47; (with_reducible refine (hfr.out wr.drew hXd).mono ?_); rintro ee w6 ⟨t1, u6, rfl, hu6⟩; obtain ⟨s6, a6, n6, c6, d6, k6, e6, rfl⟩ := hu6.shape; have hX6 := hXd.ext t1; have hu6v := hu6.qv hhq.out; have hx6 := mkx QV.mono hxd t1; have hy6 := mkx QV.mono hyd t1)
          | (go_at_call 48; (with_reducible refine (rqadd (un X oo) w6 _ _ x y hX6 hx6 hy6).mono ?_); rintro ee w7 ⟨t2, u7, rfl, hu7⟩; obtain ⟨s7, a7, n7, c7, d7, k7, e7, rfl⟩ := hu7.shape; have t12 := t1.trans t2; have hX7' := hXd.ext t12; have hu7v := hu7.qv hsq.out; have hf7 := mkx QV.mono hu6v t2)
          | (go_at_call 19; (with_reducible refine (rqmul (un X oo) w7 _ _ h (x + y) hX7' hf7 hu7v).mono ?_); rintro ee w8 ⟨t3, u8, rfl, hu8⟩; obtain ⟨s8, a8, n8, c8, d8, k8, e8, rfl⟩ := hu8.shape; have t123 := t12.trans t3; have hO8 := hO.ext0 QC.elem (hEd.trans t123); have hb8 := (hEd.trans t123).size; have hX8 := hXr.ext (hEd.trans t123))
          | (refine step_append1 (l := M.take j) rfl (by rfl) slRat rfl QC.elem (by omega) hX8 j hln.out rfl rfl hO8 (.agg #[.bool s8, .slice a8 n8 c8, .slice d8 k8 e8]) (h * (x + y)) rfl hu8 (by omega) (by omega) ?_; intro oo2 co2 w9 hO9 hE7 hor)
          | fail)
      have hE9 := (hE.trans (hEd.trans t123)).own hO8 (Nat.le_refl _) hE7
      rw [htk.out] at hO9
      clear k00 k01 k02 k10 k11 k12
      go_wp2_with fail
      go_roundw
      case rel => exact ⟨j + 1, oo2, co2, by go_num, by go_num, by omega, hO9, hE9⟩
      case measure => simp [intOf]; omega
    · have hjl : j = da := by omega
      subst hjl
      rw [List.take_of_length_le (by omega)] at hO
      have hc := hO.lenCap
      have hRC : RC (mk X wr) (.slice oo j co) M := ⟨oo, co, by rw [hml.out], hc, hO.sl QC.elem⟩
      go_wp2_with fail
      go_ret
      exact ⟨hF7.trans (ExtX.of hE), ht7.ext hE, _, M, rfl, hRC.rv (fun q hq => Nat.le_trans (hMB q hq) (by omega)), hMB, by rw [hml.out]; exact hLa⟩
end Go.Proofs.YthipmbmjodhiiaaGreat
namespace Go.Lin
open Go.Lim Go.Rep
def P4 : Mat := [[0], [1], [2], [3]]
theorem aw_ok1 : depOk P4 [1] = true := by decide +kernel
theorem aw_ok2 : depOk P4 [mkRat 1 2] = true := by decide +kernel
theorem aw_ok3 : depOk P4 [5] = true := by decide +kernel
theorem aw_v (x : Rat) (k : Nat) (h : depOk P4 [x] = true) (e : 4 - max (posM 1 [1] (fromM 1 P4 [x])) (negM 1 [1] (fromM 1 P4 [x])) = k) : depV P4 [x] = k := by
  refine depV_yes h ?_
  have := dep_one (fromM 1 P4 [x])
  have e2 : (fromM 1 P4 [x]).length = 4 := by simp [fromM, P4]
  rw [e2, e] at this
  exact this
theorem aw1 : depV P4 [1] = 2 := aw_v 1 2 aw_ok1 (by decide +kernel)
theorem aw2 : depV P4 [mkRat 1 2] = 1 := aw_v _ 1 aw_ok2 (by decide +kernel)
theorem aw3 : depV P4 [5] = 0 := aw_v 5 0 aw_ok3 (by decide +kernel)
theorem P4_bm : BM 2 P4 := by
  intro r hr q hq
  have : (P4.all fun r => r.all fun q => decide (Go.Lim.hq q <= 2)) = true := by decide +kernel
  rw [List.all_eq_true] at this
  have := this r hr
  rw [List.all_eq_true] at this
  simpa using this q hq
theorem P4_get (i : Nat) (h : i < P4.length) : P4[i] = [((i : Nat) : Rat)] := by
  match i, h with
  | 0, _ => rfl
  | 1, _ => rfl
  | 2, _ => rfl
  | 3, _ => rfl
end Go.Lin
namespace Go.Proofs.YthipmbmjodhiiaaGreat
open Go.RowKit Go.Rep Go.Lim Go.Lin
theorem hnoX (w : World) : HX noY w := fun k hk => by simp [noY] at hk
set_option maxRecDepth 100000 in
set_option maxHeartbeats 800000 in
theorem awake25_any (w : World) : Calls Tryz.prog 21 #[] w (BOut w true) := by
  go_enter Tryz.func21, Tryz.ntmps21
  go_wp2_with fail
  go_loopw [1, 2] (fun o cx wr => ∃ (i : Nat) (po : Option Addr) (pc : Nat), cx = .int .i64 i /\ o = .slice po i pc /\ i <= 4 /\ OL RC 1 noY w.heap.size 27 wr po pc (P4.take i) /\ Ext w wr) (fun _ cx _ => 4 - (intOf cx).toNat)
  case atStart => exact ⟨0, none, 0, rfl, rfl, Nat.zero_le _, OL.nil _ _ _ _ _ _, ExtX.refl _⟩
  case round =>
    obtain ⟨i, po, pc, rfl, rfl, hi, hO, hE⟩ := hrel
    by_cases hlt : i < 4
    · have hil : i < P4.length := hlt
      have htk := hid (take_snoc P4 i hil)
      have hln := hid (len_take (l := P4) (i := i) (Nat.le_of_lt hil))
      have hg := hid (P4_get i hil)
      rw [hg.out] at htk
      have hXu : HX (un noY po) wr := hO.unX (hnoX wr)
      have hiv : Hid ((((i : Int) : Rat)) = ((i : Nat) : Rat)) := hid rfl
      go_wp2_with fail
      refine (rqfrom (un noY po) wr (i : Int) hXu (by omega) (by omega)).mono ?_
      rintro e w5 ⟨hE5, u5, rfl, hu5⟩
      rw [hiv.out] at hu5
      obtain ⟨s5, a5, n5, c5, d5, m5, e5, rfl⟩ := hu5.shape
      have hL1 := (lit_rat1 (un noY po) w5 s5 a5 n5 c5 d5 m5 e5 ((i : Nat) : Rat) 34 (hXu.ext hE5) hu5).sl QC.elem
      have hEA : Ext w5 (w5.alloc (.cells #[.bool s5, .slice a5 n5 c5, .slice d5 m5 e5] 34)) := (ExtX.refl _).alloc _
      obtain ⟨wA, hwA⟩ : ∃ wA, w5.alloc (.cells #[.bool s5, .slice a5 n5 c5, .slice d5 m5 e5] 34) = wA := ⟨_, rfl⟩
      obtain ⟨gA, hgA⟩ : ∃ gA : Option Addr, some ⟨w5.heap.size, 0, none⟩ = gA := ⟨_, rfl⟩
      rw [hwA, hgA] at hL1
      rw [hwA] at hEA
      have hOA := hO.ext0 RC.elem (hE5.trans hEA)
      have hRC : RC (mk (un noY po) wA) (.slice gA 1 1) [((i : Nat) : Rat)] := ⟨gA, 1, rfl, Nat.le_refl _, hL1⟩
      have hbA := (hE.trans (hE5.trans hEA)).size
      have hEwA := hE.trans (hE5.trans hEA)
      clear hO hu5 hL1
      go_wp2_with (at_builtin; refine st_append1n (l := P4.take i) slRats rfl RC.elem hbA (hnoX wA) i hln.out rfl rfl hOA (.slice gA 1 1) [((i : Nat) : Rat)] rfl hRC (by omega) (by omega) ?_; intro oo2 co2 w7 hO7 hE7 hor)
      have hE8 := hEwA.own hOA (Nat.le_refl _) hE7
      rw [htk.out] at hO7
      go_roundw
      case rel => exact ⟨i + 1, oo2, co2, by go_num, by go_num, by omega, hO7, hE8⟩
      case measure => simp [intOf]; omega
    · have hi4 : i = 4 := by omega
      subst hi4
      have ht4 : P4.take 4 = P4 := rfl
      rw [ht4] at hO
      have hP := (hO.toRV (P4_bm.le (by decide))).sl RV.elem
      have hPc := hO.lenCap
      have hPV : MV (mk noY wr) (.slice po 4 pc) P4 := ⟨po, pc, rfl, hPc, hP⟩
      obtain ⟨a1, c1, hX1, hc1, hcl1, hq1⟩ := hP.row 1 (by decide)
      have k00 := hc1.out noY wr (ExtX.refl _) rfl
      have hh : Hd po 4 := hP.hd
      have hrow : RV (mk noY wr) (.slice a1 1 c1) [1] := ⟨a1, c1, rfl, hcl1, hq1⟩
      have hd1 := hdepth_any noY wr (.slice po 4 pc) (.slice a1 1 c1) P4 [1] 2 (hnoX wr) hPV hrow (by decide) P4_bm (fun q hq => by rw [List.mem_singleton.1 hq]; decide +kernel) (by decide) (by decide)
      rw [aw1, aw_ok1] at hd1
      have k01 : wr.cell? (adr po 1) = some (.slice a1 1 c1) := k00
      clear k00 hc1 hO hP
      go_wp2_with (with_reducible refine up_ix1 slRats (by omega) (by assumption) ?_)
      refine hd1.mono ?_
      rintro e w2 ⟨hE2, rfl⟩
      clear hd1 k01
      have hEw2 := hE.trans hE2
      go_wp2_with fail
      refine (rqfraction noY w2 1 2 (hnoX w2) (by decide) (by decide) (by decide) (by decide) (by decide) (by decide +kernel) (by decide +kernel)).mono ?_
      rintro e w3 ⟨hE3, u3, rfl, hu3⟩
      have hf2 : ((1 : Int) : Rat) / ((2 : Int) : Rat) = mkRat 1 2 := by decide +kernel
      rw [hf2] at hu3
      obtain ⟨s3, a3, n3, c3, d3, m3, e3, rfl⟩ := hu3.shape
      have hL3 := (lit_rat1 noY w3 s3 a3 n3 c3 d3 m3 e3 (mkRat 1 2) 34 (hnoX w3) hu3).sl QC.elem
      have hEA : Ext w3 (w3.alloc (.cells #[.bool s3, .slice a3 n3 c3, .slice d3 m3 e3] 34)) := (ExtX.refl _).alloc _
      obtain ⟨wA, hwA⟩ : ∃ wA, w3.alloc (.cells #[.bool s3, .slice a3 n3 c3, .slice d3 m3 e3] 34) = wA := ⟨_, rfl⟩
      obtain ⟨gA, hgA⟩ : ∃ gA : Option Addr, some ⟨w3.heap.size, 0, none⟩ = gA := ⟨_, rfl⟩
      rw [hwA, hgA] at hL3
      rw [hwA] at hEA
      have hEw3 := hEw2.trans (hE3.trans hEA)
      have hd2 := hdepth_any noY wA (.slice po 4 pc) (.slice gA 1 1) P4 [mkRat 1 2] 2 (hnoX wA) (mkx MV.mono hPV (hE2.trans (hE3.trans hEA))) ⟨gA, 1, rfl, Nat.le_refl _, hL3.qv fun q hq => by rw [List.mem_singleton.1 hq]; decide +kernel⟩ (by decide) P4_bm (fun q hq => by rw [List.mem_singleton.1 hq]; decide +kernel) (by decide) (by decide)
      rw [aw2, aw_ok2] at hd2
      clear hL3 hu3 hrow
      go_wp2_with fail
      refine hd2.mono ?_
      rintro e w4 ⟨hE4, rfl⟩
      clear hd2
      have hEw4 := hEw3.trans hE4
      go_wp2_with fail
      refine (rqfrom noY w4 5 (hnoX w4) (by decide) (by decide)).mono ?_
      rintro e w5 ⟨hE5, u5, rfl, hu5⟩
      have hv5 : (((5 : Int) : Rat)) = 5 := rfl
      rw [hv5] at hu5
      obtain ⟨s5, a5, n5, c5, d5, m5, e5, rfl⟩ := hu5.shape
      have hL5 := (lit_rat1 noY w5 s5 a5 n5 c5 d5 m5 e5 5 34 (hnoX w5) hu5).sl QC.elem
      have hEB : Ext w5 (w5.alloc (.cells #[.bool s5, .slice a5 n5 c5, .slice d5 m5 e5] 34)) := (ExtX.refl _).alloc _
      obtain ⟨wB, hwB⟩ : ∃ wB, w5.alloc (.cells #[.bool s5, .slice a5 n5 c5, .slice d5 m5 e5] 34) = wB := ⟨_, rfl⟩
      obtain ⟨gB, hgB⟩ : ∃ gB : Option Addr, some ⟨w5.heap.size, 0, none⟩ = gB := ⟨_, rfl⟩
      rw [hwB, hgB] at hL5
      rw [hwB] at hEB
      have hEw5 := hEw4.trans (hE5.trans hEB)
      have hd3 := hdepth_any noY wB (.slice po 4 pc) (.slice gB 1 1) P4 [5] 2 (hnoX wB) (mkx MV.mono hPV (hE2.trans (hE3.trans (hEA.trans (hE4.trans (hE5.trans hEB)))))) ⟨gB, 1, rfl, Nat.le_refl _, hL5.qv fun q hq => by rw [List.mem_singleton.1 hq]; decide +kernel⟩ (by decide) P4_bm (fun q hq => by rw [List.mem_singleton.1 hq]; decide +kernel) (by decide) (by decide)
      rw [aw3, aw_ok3] at hd3
      clear hL5 hu5 hPV
      go_wp2_with fail
      refine hd3.mono ?_
      rintro e w6 ⟨hE6, rfl⟩
      clear hd3
      go_wp2_with fail
      go_ret
      exact ⟨hEw5.trans hE6, rfl⟩
end Go.Proofs.YthipmbmjodhiiaaGreat
namespace Go.Proofs.YthipmbmjodhiiaaGreat.seat
open Go.RowKit
theorem and_t {a b : Bool} (h1 : a = true) (h2 : b = true) : (a && b) = true := by rw [h1, h2]; rfl
theorem laid : laidOutB Tryz.pinned.checked.prog = true := by kernel_rfl
theorem maps : mapsRowed Tryz.pinned.checked.prog = true := by kernel_rfl
theorem stops : (Program.stops Tryz.pinned.checked.prog == []) = true := by kernel_rfl
theorem knobs : (Program.stopKnobs Tryz.pinned.checked.prog == []) = true := by kernel_rfl
theorem heard : Program.stopsHeard Tryz.pinned.checked.prog = true := by kernel_rfl
theorem enter : Program.mayEnter Tryz.pinned.checked.prog = true := by kernel_rfl
theorem lifts : (Rows.halfspaceMovesRow.lifted == Program.liftsFinal Tryz.pinned.checked.prog) = true := by kernel_rfl
theorem make : (Program.make Tryz.pinned.checked.prog == some Rows.halfspaceMovesRow.make) = true := by kernel_rfl
theorem plain : (Rows.halfspaceMovesRow.plainKeys == Program.plainKeys Tryz.pinned.checked.prog) = true := by kernel_rfl
end Go.Proofs.YthipmbmjodhiiaaGreat.seat
namespace Go.Proofs.YthipmbmjodhiiaaGreat
open Go.ChangeShapes Go.WideShapes Go.ChangeAt Go.RowKit Go.Rep Go.Deep
section
variable {H : Type} {enc : TypeId × Value -> H} {w : World} {base : Nat} {spare : Nat -> Bool} {held : Bool}
theorem adr_some {x : Addr} {v : Value} (h : w.cell? (x.add 0) = some v) : (∀ j, x.add j = adr (some x) j) /\ ∃ b off, x = ⟨b, off, none⟩ := by
  have hs := World.cell?_spot h
  obtain ⟨b, off, spot⟩ := x
  have hspot : spot = none := by simpa [Addr.add] using hs
  subst hspot
  exact ⟨fun j => by rw [Addr.add_lit]; simp [adr], b, off, rfl⟩
end
end Go.Proofs.YthipmbmjodhiiaaGreat
namespace Go.Proofs.YthipmbmjodhiiaaGreat
open Go.ChangeShapes Go.WideShapes Go.ChangeAt Go.RowKit Go.Rep Go.Deep
theorem rng_i64 {n : Int} (h : (Lit.int .i64 n).wf = true) : -9223372036854775808 <= n /\ n <= 9223372036854775807 := by
  unfold Lit.wf at h
  simpa [IntKind.min, IntKind.max, IntKind.signed, IntKind.bits] using h
section
variable {H : Type} {enc : TypeId × Value -> H} {P : Program} {w : World} {base : Nat} {spare : Nat -> Bool} {held : Bool}
theorem ints_wf {fuel : Nat} {v : Value} {x : DataW H × List MemPlace} (h : DataW.trod enc Tryz.prog w base spare held fuel 22 [v] = some x) :
    ∃ (a : Option Addr) (l : List Int) (cap : Nat), v = .slice a l.length cap /\ l.length <= cap /\ l.length <= 9223372036854775807 /\ Sl (IntIn .i64) 1 (mk noY w) a l /\ ∀ x ∈ l, -9223372036854775808 <= x /\ x <= 9223372036854775807 := by
  rw [mk_noY]
  rcases open_ints Tryz.underlying22 Tryz.underlying3 (by kernel_rfl) h with ⟨hcs, _⟩ | ⟨x, len, c, zs, hcs, _, hl, hm, hz, _, hcell, hwf⟩
  · refine ⟨none, [], 0, by simpa using hcs, by simp, by simp, Sl.nil _ _ _ _, by simp⟩
  · have hzl : len <= zs.length := by
      rw [hz]; split <;> omega
    have hlen : (zs.take len).length = len := by simp; omega
    have hmax : c <= 9223372036854775807 := by simpa [maxLen] using hm
    refine ⟨some x, zs.take len, c, by rw [hlen]; simpa using hcs, by omega, by omega, ⟨fun h0 => ?_, fun i hi => ?_⟩, fun y hy => rng_i64 (hwf y (List.mem_of_mem_take hy))⟩
    · obtain ⟨_, b, off, hx⟩ := adr_some (hcell 0 (by omega))
      exact ⟨b, off, by rw [hx]⟩
    · have hi' : i < zs.length := by omega
      refine ⟨.int .i64 (zs.take len)[i], rfl, fun j hj => ?_, rfl⟩
      have hj0 : j = 0 := by simp [Value.cells] at hj; exact hj
      subst hj0
      have h1 := hcell i hi'
      have h2 := (adr_some (hcell 0 (by omega))).1 i
      rw [h2] at h1
      simp only [Nat.mul_one, Nat.add_zero, List.getElem_take]
      rw [h1]
      simp [List.getD_eq_getElem?_getD, hi', Value.cells]
end
end Go.Proofs.YthipmbmjodhiiaaGreat
namespace Go.Proofs.YthipmbmjodhiiaaGreat
open Go.RowKit Go.Rep Go.Lim Go.Lin
set_option maxRecDepth 100000 in
set_option maxHeartbeats 1600000 in
theorem rdot23_any (X : Nat -> Bool) (w : World) (u v : Value) (l m : List Rat) (hX : HX X w) (hu : RV (mk X w) u l) (hv : RV (mk X w) v m) (hn : l.length <= 1000000) (hml : m.length = l.length) (hb1 : ∀ k, k <= l.length -> hq (dotN l m k) <= 68719476736) (hb2 : ∀ k, k < l.length -> hq (l.getD k 0 * m.getD k 0) <= 68719476736) :
    Calls Tryz.prog 56 #[u, v] w (ROut X w QC (dotL l m)) := by
  obtain ⟨ao, ca, rfl, hca, hsa⟩ := hu
  obtain ⟨bo, cb, rfl, hcb, hsb⟩ := hv
  have hha := hsa.hd
  have hhb := hsb.hd
  obtain ⟨W, hW, hE, b0, b1, hz⟩ := boxes2 w #[.bool false, .slice none 0 0, .slice none 0 0] #[.bool false, .slice none 0 0, .slice none 0 0] 34 34
  have hXW : HX (hidB X w.heap.size 2) W := hX.boxes hz
  have h0 : QC (mk (hidB X w.heap.size 2) W) (.agg #[.bool false, .slice none 0 0, .slice none 0 0]) (dotN l m 0) := QC.zero _
  obtain ⟨n, hln⟩ : ∃ n, l.length = n := ⟨_, rfl⟩
  rw [hln] at hn hml hb1 hb2 hca hha |-
  rw [hml] at hcb hhb |-
  have hln' := hid hln
  have hml' := hid hml
  have hb1' := hid hb1
  have hb2' := hid hb2
  have hdot : Hid (dotN l m n = dotL l m) := hid (by unfold dotL; rw [hln])
  clear hln hml hb1 hb2
  go_enter Tryz.func56, Tryz.ntmps56
  go_wp2_with fail
  obtain ⟨b, hb⟩ : ∃ b, w.heap.size = b := ⟨_, rfl⟩
  have hle : Hid (∀ wr, Ext w wr -> Le (mk X w) (mk (hidB X b 2) wr)) := hid fun wr h => by rw [<- hb]; exact le_boxes h
  have hbw : w.heap.size <= b := by omega
  rw [hb] at b0 b1 hXW h0 |-
  clear hW
  go_loopw [9] (fun k wr => ∃ (i : Nat) (s : Bool) (a : Option Addr) (n' c' : Nat) (d : Option Addr) (kk e : Nat), k = .int .i64 i /\ i <= n /\ Bx wr b #[.bool false, .slice none 0 0, .slice none 0 0] 34 /\ Bx wr (b + 1) #[.bool s, .slice a n' c', .slice d kk e] 34 /\ QC (mk (hidB X b 2) wr) (.agg #[.bool s, .slice a n' c', .slice d kk e]) (dotN l m i) /\ HX (hidB X b 2) wr /\ Ext w wr) (fun k _ => n - (intOf k).toNat)
  case atStart => exact ⟨0, _, _, _, _, _, _, _, rfl, Nat.zero_le _, b0, b1, h0, hXW, hE⟩
  case round =>
    obtain ⟨i, s, a, n', c', d, kk, e, rfl, hi, b0, b1, hq, hXr, hEr⟩ := hrel
    by_cases hlt : i < n
    · have hil : i < l.length := by rw [hln'.out]; exact hlt
      have him : i < m.length := by rw [hml'.out]; exact hlt
      have hsr := hsa.mono QV.mono (hle.out wr hEr)
      have hsr2 := hsb.mono QV.mono (hle.out wr hEr)
      obtain ⟨g1, o1, s1, p1, n1, q1, d1, k1, e1, hg1, hX1, hc1, hq1⟩ := hsr.rat QV.shaped i hil
      obtain ⟨g2, o2, s2, p2, n2, q2, d2, k2, e2, hg2, hX2, hc2, hq2⟩ := hsr2.rat QV.shaped i him
      have gl : Hid (l.getD i 0 = l[i]) := hid (by simp [List.getD_eq_getElem?_getD, hil])
      have gm : Hid (m.getD i 0 = m[i]) := hid (by simp [List.getD_eq_getElem?_getD, him])
      have hst : Hid (dotN l m i + l[i] * m[i] = dotN l m (i + 1)) := hid (by rw [<- gl.out, <- gm.out]; rfl)
      have hbo := hid (hb1'.out i hi)
      have hbp := hid (hb2'.out i hlt)
      rw [gl.out, gm.out] at hbp
      obtain ⟨x, hx⟩ : ∃ x, l[i] = x := ⟨_, rfl⟩
      obtain ⟨y, hy⟩ : ∃ y, m[i] = y := ⟨_, rfl⟩
      rw [hx, hy] at hst hbp
      rw [hx] at hq1
      rw [hy] at hq2
      have i1 : ∀ W, (Instr.indexAt 27 (.slice ao n ca) (.int .i64 (i : Int))).run Tryz.prog W = .ok (.pointer (some ⟨g1, o1, none⟩)) W := by rw [<- hg1]; exact run_indexAt_adr slRat ao n ca .i64 i hha (by omega)
      have i2 : ∀ W, (Instr.indexAt 27 (.slice bo n cb) (.int .i64 (i : Int))).run Tryz.prog W = .ok (.pointer (some ⟨g2, o2, none⟩)) W := by rw [<- hg2]; exact run_indexAt_adr slRat bo n cb .i64 i hhb (by omega)
      obtain ⟨D, hD⟩ : ∃ D, dotN l m i = D := ⟨_, rfl⟩
      obtain ⟨D2, hD2⟩ : ∃ D2, dotN l m (i + 1) = D2 := ⟨_, rfl⟩
      rw [hD] at hq hst hbo
      rw [hD2] at hst
      have hD2' := hid hD2
      clear hx hy hg1 hg2 hD hD2
      have hE5d : Ext wr wr.drew := (ExtX.refl wr).drew
      have b05 := b0.ext0 hE5d
      have b15 := b1.ext0 hE5d
      have k00 := b15.cell 0 rfl
      have k01 := b15.cell 1 rfl
      have k02 := b15.cell 2 rfl
      obtain ⟨k10, k11, k12⟩ := hc1.out noY wr.drew hE5d rfl
      obtain ⟨k20, k21, k22⟩ := hc2.out noY wr.drew hE5d rfl
      have hXd := hXr.ext hE5d
      have hx5 : QV (mk (hidB X b 2) wr.drew) (.agg #[.bool s1, .slice p1 n1 q1, .slice d1 k1 e1]) x := mkx QV.mono hq1 hE5d
      have hy5 : QV (mk (hidB X b 2) wr.drew) (.agg #[.bool s2, .slice p2 n2 q2, .slice d2 k2 e2]) y := mkx QV.mono hq2 hE5d
      have hq5 : QV (mk (hidB X b 2) wr.drew) (.agg #[.bool s, .slice a n' c', .slice d kk e]) D := (mkx QC.mono hq hE5d).qv hbo.out
      clear hc1 hc2
      go_wp2_with fail
      go_region_with (first | (go_at_call 19; (with_reducible refine (rqmul (hidB X b 2) wr.drew _ _ _ _ hXd hx5 hy5).mono ?_); rintro ee w6 ⟨t1, u6, rfl, hu6⟩; obtain ⟨s6, a6, n6, c6, d6, k6, e6, rfl⟩ := hu6.shape; have hX6 := hXd.ext t1; have hq6 := mkx QV.mono hq5 t1; have hm6 := hu6.qv hbp.out; have b16 := b15.ext0 t1; have m0 := b16.cell 0 rfl; have m1 := b16.cell 1 rfl; have m2 := b16.cell 2 rfl) | (go_at_call 48; (with_reducible refine (rqadd (hidB X b 2) w6 _ _ _ _ hX6 hq6 hm6).mono ?_); rintro ee w7 ⟨t7, u7, rfl, hu7⟩; obtain ⟨s7, a7, n7, c7, d7, k7, e7, rfl⟩ := hu7.shape; rw [hst.out] at hu7; have b17 := b16.ext0 t7; have g0 := b17.cell 0 rfl; have g1' := b17.cell 1 rfl; have g2' := b17.cell 2 rfl; have f0 := b17.frozen 0; have f1 := b17.frozen 1; have f2 := b17.frozen 2))
      all_goals
        obtain ⟨z1, z2⟩ := b17.set3 (.bool s7) (.slice a7 n7 c7) (.slice d7 k7 e7)
        have h8 := QC.mono _ _ _ _ (le_store (lo := b) (nb := 2) z2 (by omega) (by omega)) hu7
        have b08 := ((b05.ext0 t1).ext0 t7).ext z2 (ob_other (by omega))
        have hE8 : Ext w _ := ExtX.box (hEr.trans (hE5d.trans (t1.trans t7))) z2 (by omega)
        have hX8 := (hX6.ext t7).ext z2
        rw [<- hD2'.out] at h8
        clear k00 k01 k02 k10 k11 k12 k20 k21 k22 m0 m1 m2 g0 g1' g2' f0 f1 f2 i1 i2
        go_wp2_with fail
        go_roundw
        case rel => exact ⟨i + 1, _, _, _, _, _, _, _, by go_num, by omega, b08, z1, h8, hX8, hE8⟩
        case measure => simp [intOf]; omega
    · have hin : i = n := by omega
      subst hin
      rw [hdot.out] at hq
      have k00 := b1.cell 0 rfl
      have k01 := b1.cell 1 rfl
      have k02 := b1.cell 2 rfl
      go_wp2_with ((with_reducible show wpList _ _ _ (⟨_, .store _ _ _, _, _, _, _⟩ :: _) _ _); refine st_storeBox stRat rfl rfl b0 rfl rfl (one3 _ _ _ _ _ _ _) ?_; intro w7 r1 r2)
      have h7 := QC.mono _ _ _ _ le_unbox (QC.mono _ _ _ _ (le_store r2 (by omega) (by omega)) hq)
      exact bodyPost_ret (results_box rfl rfl stRat r1 rfl) rfl ⟨ExtX.box hEr r2 (by omega), _, rfl, h7⟩
end Go.Proofs.YthipmbmjodhiiaaGreat
namespace Go.Proofs.YthipmbmjodhiiaaGreat
open Go.RowKit Go.Rep Go.Lim Go.Lin
end Go.Proofs.YthipmbmjodhiiaaGreat
namespace Go.Lin
theorem ent_at {m : Mat} {i j : Nat} (hi : i < m.length) (hj : j < m[i].length) : m[i][j] = ent m i j := by
  unfold ent
  rw [show m.getD i [] = m[i] by simp [List.getD_eq_getElem?_getD, hi], List.getD_eq_getElem?_getD, List.getElem?_eq_getElem hj]; rfl
theorem colsL_shp {m : Mat} {n c : Nat} (h : Shp n c m) (hc : n = 0 -> c = 0) : colsL m = c := by
  by_cases hn : 0 < n
  · have h0 : 0 < m.length := by rw [h.1]; exact hn
    rw [colsL_pos h0]; exact h.2 _ (List.getElem_mem _)
  · have : m = [] := List.eq_nil_of_length_eq_zero (by rw [h.1]; omega)
    subst this; rw [hc (by omega)]; rfl
end Go.Lin
namespace Go.Proofs.YthipmbmjodhiiaaGreat
open Go.RowKit Go.Rep Go.Lim Go.Lin
theorem rcolumns {R : Mem -> Value -> Rat -> Prop} (X : Nat -> Bool) (w : World) (u : Value) (m : List (List Rat)) (hu : SlV (SlV R 3) 1 (mk X w) u m) : Calls Tryz.prog 135 #[u] w (fun e w' => w' = w /\ e = .returned (.int .i64 (colsL m : Int))) := by
  obtain ⟨ao, ca, rfl, hca, hsa⟩ := hu
  have hha := hsa.hd
  by_cases h : 0 < m.length
  · obtain ⟨a1, c1, hX1, hc1, hcl1, hq1⟩ := hsa.row 0 h
    have k00 := hc1.out noY w (ExtX.refl _) rfl
    have hc := hid (colsL_pos h)
    have hI : ((m.length : Int) == 0) = false := beqF (by omega)
    go_enter Tryz.func135, Tryz.ntmps135
    go_wp2_with (with_reducible refine up_ix1 slRats (by omega) (by assumption) ?_)
    go_ret
    exact ⟨rfl, ret_int (by rw [hc.out])⟩
  · have hc : Hid (colsL m = 0) := hid (by
      have : m = [] := List.eq_nil_of_length_eq_zero (by omega)
      subst this; rfl)
    have hI : ((m.length : Int) == 0) = true := beqT (by omega)
    go_enter Tryz.func135, Tryz.ntmps135
    go_wp2_with (with_reducible refine up_ix1 slRats (by omega) (by assumption) ?_)
    go_ret
    exact ⟨rfl, ret_int (by rw [hc.out]; rfl)⟩
set_option maxRecDepth 100000 in
theorem rformed {R : Mem -> Value -> Rat -> Prop} (hR : Mono R) (X : Nat -> Bool) (w : World) (u : Value) (m : List (List Rat)) (hu : SlV (SlV R 3) 1 (mk X w) u m) (hl : m.length <= 1099511627776) : Calls Tryz.prog 133 #[u] w (BOut w (formedB m)) := by
  obtain ⟨ao, ca, rfl, hca, hsa⟩ := hu
  have hha := hsa.hd
  by_cases h96 : 96 < m.length
  · have hv : Hid (false = formedB m) := hid (by
      symm
      cases hf : formedB m
      · rfl
      · have := (formedB_true.1 hf).1; omega)
    have hI : (96 : Int) < (m.length : Int) := by omega
    go_enter Tryz.func133, Tryz.ntmps133
    go_wp2_with fail
    go_ret
    exact ⟨ExtX.refl _, ret_bool hv.out⟩
  · have hI : ¬ (96 : Int) < (m.length : Int) := by omega
    obtain ⟨n, hn⟩ : ∃ n, m.length = n := ⟨_, rfl⟩
    have hn' := hid hn
    have hn6 : n <= 96 := by omega
    rw [hn] at hha hI |-
    clear hn hl h96 hca
    go_enter Tryz.func133, Tryz.ntmps133
    go_wp2_with fail
    go_loopw [3] (fun c wr => ∃ (i : Nat), c = .int .i64 i /\ i <= n /\ Hid (∀ q, q < i -> ∀ hq : q < m.length, 1 <= m[q].length /\ m[q].length <= 96 /\ m[q].length = colsL m) /\ Ext w wr) (fun c _ => n - (intOf c).toNat)
    case atStart => exact ⟨0, rfl, Nat.zero_le _, hid (fun q hq => by omega), ExtX.refl _⟩
    case round =>
      obtain ⟨i, rfl, hi, hok, hE⟩ := hrel
      by_cases hlt : i < n
      · have hil : i < m.length := by rw [hn'.out]; exact hlt
        have h0 : 0 < m.length := by omega
        have hsr := hsa.mono (SlV.mono hR 3) (mk_ext hE)
        obtain ⟨a1, c1, hX1, hc1, hcl1, hq1⟩ := hsr.row i hil
        obtain ⟨a2, c2, hX2, hc2, hcl2, hq2⟩ := hsr.row 0 h0
        have k00 := hc1.out noY wr (ExtX.refl _) rfl
        have k10 := hc2.out noY wr (ExtX.refl _) rfl
        have i1 : ∀ W, (Instr.indexAt 25 (.slice ao n ca) (.int .i64 (i : Int))).run Tryz.prog W = .ok (.pointer (some (adr ao i))) W := run_ix1 slRats ao n ca .i64 i hha (by omega) rfl
        have i0 : ∀ W, (Instr.indexAt 25 (.slice ao n ca) (.int .i64 0)).run Tryz.prog W = .ok (.pointer (some (adr ao 0))) W := run_ix1 slRats ao n ca .i64 0 hha (by omega) rfl
        have hcol := colsL_pos h0
        have hno := hid (formedB_false i hil)
        rw [<- hcol] at k10
        obtain ⟨x, hx⟩ : ∃ x, m[i].length = x := ⟨_, rfl⟩
        obtain ⟨y, hy⟩ : ∃ y, colsL m = y := ⟨_, rfl⟩
        rw [hx] at k00 hno
        rw [hy] at k10 hno
        have hst : Hid (1 <= x /\ x <= 96 /\ x = y -> ∀ hq : i < m.length, 1 <= m[i].length /\ m[i].length <= 96 /\ m[i].length = colsL m) := hid fun h hq => by rw [hx, hy]; exact h
        clear hx hy hcol hc1 hc2 hq1 hq2 hcl1 hcl2 h0 hil
        by_cases hx0 : x = 0
        · have d0 : decide ((x : Int) < 1) = true := decide_eq_true (by omega)
          have hv := hid (hno.out (by omega))
          clear hx0 hno hst
          go_wp2_with fail
          go_region
          all_goals
            clear k00 k10 i1 i0
            go_wp2_with fail
            go_ret
            exact ⟨hE.trans (ExtX.refl wr).drew, ret_bool hv.out⟩
        · have d0 : decide ((x : Int) < 1) = false := decide_eq_false (by omega)
          by_cases hx1 : 96 < x
          · have d1 : decide ((96 : Int) < (x : Int)) = true := decide_eq_true (by omega)
            have hv := hid (hno.out (by omega))
            clear hx0 hno hst
            go_wp2_with fail
            go_region
            all_goals
              clear k00 k10 i1 i0
              go_wp2_with fail
              go_ret
              exact ⟨hE.trans (ExtX.refl wr).drew, ret_bool hv.out⟩
          · have d1 : decide ((96 : Int) < (x : Int)) = false := decide_eq_false (by omega)
            by_cases hxy : x = y
            · have d2 : ((x : Int) != (y : Int)) = false := bneF (by omega)
              have hst2 := hid (hst.out ⟨by omega, by omega, hxy⟩)
              clear hx0 hxy hno hst hx1
              go_wp2_with fail
              go_region
              all_goals
                clear k00 k10 i1 i0
                go_wp2_with fail
                go_roundw
                case rel => exact ⟨i + 1, by go_num, by omega, hid (upto_succ hok.out hst2.out), hE.trans (ExtX.refl wr).drew⟩
                case measure => simp [intOf]; omega
            · have d2 : ((x : Int) != (y : Int)) = true := bneT (by omega)
              have hv := hid (hno.out (by omega))
              clear hx0 hxy hno hst hx1
              go_wp2_with fail
              go_region
              all_goals
                clear k00 k10 i1 i0
                go_wp2_with fail
                go_ret
                exact ⟨hE.trans (ExtX.refl wr).drew, ret_bool hv.out⟩
      · have hv : Hid (true = formedB m) := hid (by
          symm
          exact formedB_true.2 ⟨by rw [hn'.out]; omega, fun q hq => hok.out q (by rw [hn'.out] at hq; omega) hq⟩)
        go_wp2_with fail
        go_ret
        exact ⟨hE, ret_bool hv.out⟩
end Go.Proofs.YthipmbmjodhiiaaGreat
namespace Go.Lin
end Go.Lin
namespace Go.Proofs.YthipmbmjodhiiaaGreat
open Go.RowKit Go.Rep Go.Lim Go.Lin
end Go.Proofs.YthipmbmjodhiiaaGreat
namespace Go.Lin
open Go.Lim Go.Rep
theorem pickC_get {z : Mat} {p : List Nat} {i : Nat} (hi : i < z.length) (h : i < (pickC z p).length) : (pickC z p)[i] = p.map fun q => z[i].getD q 0 := by simp [pickC]
theorem pickC_bm {B : Nat} {z : Mat} {p : List Nat} (h : BM B z) (hB : 1 <= B) : BM B (pickC z p) := fun r hr q hq' => by
  unfold pickC at hr
  obtain ⟨s, hs, rfl⟩ := List.mem_map.1 hr
  obtain ⟨j, _, rfl⟩ := List.mem_map.1 hq'
  exact brD (h s hs) hB j
end Go.Lin
namespace Go.Proofs.YthipmbmjodhiiaaGreat
open Go.RowKit Go.Rep Go.Lim Go.Lin
set_option maxRecDepth 100000 in
set_option maxHeartbeats 800000 in
theorem rpick_any (X : Nat -> Bool) (w : World) (u : Value) (z : List (List Rat)) (po : Option Addr) (p : List Nat) (pc c : Nat) (hX : HX X w) (hu : MV (mk X w) u z) (hsh : ∀ r ∈ z, r.length = c) (hz : z.length <= 1000) (hp : Sl (NatIn .i64) 1 (mk X w) po p) (_hpc : p.length <= pc) (hpl : p.length <= 1000) (hb : ∀ x ∈ p, x < c) :
    Calls Tryz.prog 98 #[u, .slice po p.length pc] w (ROut X w MV (pickC z p)) := by
  obtain ⟨M, hM⟩ : ∃ M, pickC z p = M := ⟨_, rfl⟩
  have hMl : Hid (M.length = z.length) := hid (by rw [<- hM]; simp [pickC])
  have hMr : Hid (∀ i (hi : i < z.length) (h : i < M.length), M[i] = p.map fun q => z[i].getD q 0) := hid fun i hi h => by subst hM; exact pickC_get hi h
  obtain ⟨n, hn⟩ : ∃ n, z.length = n := ⟨_, rfl⟩
  obtain ⟨k, hk⟩ : ∃ k, p.length = k := ⟨_, rfl⟩
  have hn' := hid hn
  have hk' := hid hk
  have hsh' := hid hsh
  have hb' := hid hb
  have hhp := hp.hd
  rw [hM]
  obtain ⟨ua, uca, rfl, huca, hua⟩ := hu
  have hhu := hua.hd
  rw [hn] at hMl hz huca hhu |-
  rw [hk] at hhp hpl |-
  have hMl2 : M.length <= n := by rw [hMl.out]; exact Nat.le_refl _
  have hMl3 : n <= M.length := by rw [hMl.out]; exact Nat.le_refl _
  clear hM hn hk hsh hb
  go_enter Tryz.func98, Tryz.ntmps98
  go_wp2_with fail
  go_loopw [5, 13] (fun o cc wr => ∃ (i : Nat) (oo : Option Addr) (co : Nat), cc = .int .i64 i /\ o = .slice oo i co /\ i <= n /\ OL RV 1 X w.heap.size 27 wr oo co (M.take i) /\ Ext w wr) (fun _ cc _ => n - (intOf cc).toNat)
  case atStart => exact ⟨0, none, 0, rfl, rfl, Nat.zero_le _, OL.nil _ _ _ _ _ _, ExtX.refl _⟩
  case round =>
    obtain ⟨i, oo, co, rfl, rfl, hi, hO, hE⟩ := hrel
    have hXr : HX X wr := hX.ext hE
    have hXu : HX (un X oo) wr := hO.unX hXr
    have hbase := hE.size
    by_cases hlt : i < n
    · have hiz : i < z.length := by rw [hn'.out]; exact hlt
      have hltM : i < M.length := by omega
      have htk := hid (take_snoc M i hltM)
      have hln := hid (len_take (l := M) (i := i) (by omega))
      obtain ⟨R, hR⟩ : ∃ R, M[i] = R := ⟨_, rfl⟩
      have hRd := hMr.out i hiz hltM
      rw [hR] at hRd htk
      have hsr : Sl RV 1 (mk (un X oo) wr) ua z := hua.old RV.mono hE (fun j hj => hO.ob_lt hj)
      have hpr : Sl (NatIn .i64) 1 (mk (un X oo) wr) po p := hp.old (NatIn.mono _) hE (fun j hj => hO.ob_lt hj)
      obtain ⟨a1, c1, hX1, hc1, hcl1, hq1⟩ := hsr.row i hiz
      have k00 := hc1.out noY wr (ExtX.refl _) rfl
      have hrl : Hid (z[i].length = c) := hid (hsh'.out z[i] (List.getElem_mem _))
      obtain ⟨x, hx⟩ : ∃ x, z[i] = x := ⟨_, rfl⟩
      rw [hrl.out] at k00 hcl1
      have hh1 : Hd a1 c := by have := hq1.hd; rw [hrl.out] at this; exact this
      rw [hx] at hq1 hRd hrl
      have hRl : Hid (R.length = k) := hid (by rw [hRd, <- hk'.out]; simp)
      have hRi : Hid (∀ j (hj : j < p.length) (h : j < R.length) (hh : p[j] < x.length), R[j] = x[p[j]]) := hid fun j hj h hh => by subst hRd; simp [List.getD_eq_getElem?_getD, hh]
      have hRl2 : R.length <= k := by rw [hRl.out]; exact Nat.le_refl _
      have hRl3 : k <= R.length := by rw [hRl.out]; exact Nat.le_refl _
      clear hRd hR hx hc1
      obtain ⟨wo, hwo⟩ : ∃ wo, wo = wr := ⟨_, rfl⟩
      subst hwo
      go_wp2_with (with_reducible refine up_ix1 slRats (by omega) (by assumption) ?_)
      go_loopw [8, 19] (fun o cc wx => ∃ (j : Nat) (ro : Option Addr) (cr : Nat), cc = .int .i64 j /\ o = .slice ro j cr /\ j <= k /\ OL QV 3 (un X oo) wo.heap.size 34 wx ro cr (R.take j) /\ Ext wo wx) (fun _ cc _ => k - (intOf cc).toNat)
      case atStart => exact ⟨0, none, 0, rfl, rfl, Nat.zero_le _, OL.nil _ _ _ _ _ _, ExtX.refl _⟩
      case round =>
        obtain ⟨j, ro, cr, rfl, rfl, hj, hOr, hEr⟩ := hrel
        have hXx : HX (un X oo) wr := hXu.ext hEr
        have hXy : HX (un (un X oo) ro) wr := hOr.unX hXx
        have hbr := hEr.size
        clear k00
        by_cases hlj : j < k
        · have hjp : j < p.length := by rw [hk'.out]; exact hlj
          have hjR : j < R.length := by omega
          have htj := hid (take_snoc R j hjR)
          have hlnj := hid (len_take (l := R) (i := j) (by omega))
          have hpq : p[j] < c := hb'.out p[j] (List.getElem_mem _)
          have hpx : p[j] < x.length := by rw [hrl.out]; exact hpq
          have hRj := hRi.out j hjp hjR hpx
          rw [hRj] at htj
          have k01 := (hpr.mono (NatIn.mono _) (mk_ext hEr)).nat j hjp
          have hq2 : Sl QV 3 (mk (un (un X oo) ro) wr) a1 x := hq1.old QV.mono hEr (fun j hj => hOr.ob_lt hj)
          obtain ⟨q, hq⟩ : ∃ q, p[j] = q := ⟨_, rfl⟩
          simp only [hq] at hpq hpx htj k01
          obtain ⟨v, hv⟩ : ∃ v, x[q] = v := ⟨_, rfl⟩
          rw [hv] at htj
          have hv' := hid hv
          clear hRj hq hv
          go_wp2_with (first | (with_reducible refine up_ix1 slInt (by omega) (by assumption) ?_) | (with_reducible refine up_ixn slRat (by omega) (by assumption) ?_) | ((with_reducible show wpList _ _ _ (⟨_, .load 34 _, _, _, _, _⟩ :: _) _ _); refine st_loadElem stRat q hq2 hpx rfl (by simp) QV.agg ?_; intro u5 hu5; rw [hv'.out] at hu5; obtain ⟨s5, a5, n5, c5, d5, k5, e5, rfl⟩ := hu5.shape) | (at_builtin; refine st_append1n (l := R.take j) slRat rfl QV.elem (by omega) hXx j hlnj.out rfl rfl hOr (.agg #[.bool s5, .slice a5 n5 c5, .slice d5 k5 e5]) v rfl hu5 (by omega) (by omega) ?_; intro oo2 co2 w7 hO7 hE7 hor))
          have hE8 := hEr.own hOr (Nat.le_refl _) hE7
          rw [htj.out] at hO7
          go_roundw
          case rel => exact ⟨j + 1, oo2, co2, by go_num, by go_num, by omega, hO7, hE8⟩
          case measure => simp [intOf]; omega
        · have hjk : j = k := by omega
          subst hjk
          rw [List.take_of_length_le (by omega)] at hOr
          have hcr := hOr.lenCap
          have hsR := hOr.sl QV.elem
          have hO6 := hO.ext0 RV.elem hEr
          have hRC : RV (mk (un X oo) wr) (.slice ro j cr) R := ⟨ro, cr, by rw [hRl.out], hcr, hsR⟩
          go_wp2_with (at_builtin; refine st_append1n (l := M.take i) slRats rfl RV.elem (by omega) (hXr.ext hEr) i hln.out rfl rfl hO6 (.slice ro j cr) R rfl hRC (by omega) (by omega) ?_; intro oo2 co2 w7 hO7 hE7 hor)
          have hE8 := (hE.trans hEr).own hO6 (Nat.le_refl _) hE7
          rw [htk.out] at hO7
          go_roundw
          case rel => exact ⟨i + 1, oo2, co2, by go_num, by go_num, by omega, hO7, hE8⟩
          case measure => simp [intOf]; omega
    · have hil : i = n := by omega
      subst hil
      rw [List.take_of_length_le (by omega)] at hO
      have hc := hO.lenCap
      have hs := hO.sl RV.elem
      go_wp2_with fail
      go_ret
      exact ⟨hE, _, rfl, oo, co, by rw [hMl.out]; rfl, by rw [hMl.out]; rw [hMl.out] at hc; exact hc, hs⟩
def TwoOut (w : World) (a b : Nat) (e : Ending) (w' : World) : Prop := Ext w w' /\ e = .returned (.tuple #[.int .i64 (a : Int), .int .i64 (b : Int)])
set_option maxRecDepth 100000 in
set_option maxHeartbeats 800000 in
theorem rcnt_any (X : Nat -> Bool) (w : World) (u v : Value) (z : List (List Rat)) (y : List Rat) (c B C : Nat) (hX : HX X w) (hu : MV (mk X w) u z) (hv : RV (mk X w) v y) (hsh : ∀ r ∈ z, r.length = c) (hy : y.length = c) (hc3 : c <= 1000) (hz : z.length <= 1000) (hzB : BM B z) (hyC : BR C y) (hB1 : 1 <= B) (hC1 : 1 <= C) (hBC : B + C <= 60000000) :
    Calls Tryz.prog 99 #[u, v] w (TwoOut w (posM c y z) (negM c y z)) := by
  obtain ⟨n, hn⟩ : ∃ n, z.length = n := ⟨_, rfl⟩
  have hn' := hid hn
  have hsh' := hid hsh
  have hzB' := hid hzB
  have hy' := hid hy
  obtain ⟨va, vca, rfl, hvca, hva⟩ := hv
  obtain ⟨ua, uca, rfl, huca, hua⟩ := hu
  have hhu := hua.hd
  have hfin : Hid (posM c y (z.take n) = posM c y z /\ negM c y (z.take n) = negM c y z) := hid (by rw [<- hn, List.take_length]; exact ⟨rfl, rfl⟩)
  rw [hn] at hz huca hhu |-
  clear hn hsh hzB hy
  go_enter Tryz.func99, Tryz.ntmps99
  go_wp2_with fail
  go_loopw [6, 7, 12] (fun a b cc wr => ∃ i : Nat, cc = .int .i64 i /\ i <= n /\ a = .int .i64 (posM c y (z.take i) : Int) /\ b = .int .i64 (negM c y (z.take i) : Int) /\ Ext w wr) (fun _ _ cc _ => n - (intOf cc).toNat)
  case atStart => exact ⟨0, rfl, Nat.zero_le _, rfl, rfl, ExtX.refl _⟩
  case round =>
    obtain ⟨i, rfl, hi, rfl, rfl, hE⟩ := hrel
    have hXr : HX X wr := hX.ext hE
    by_cases hlt : i < n
    · have hiz : i < z.length := by rw [hn'.out]; exact hlt
      have hsr := hua.mono RV.mono (mk_ext hE)
      obtain ⟨a1, c1, hX1, hc1, hcl1, hq1⟩ := hsr.row i hiz
      have k00 := hc1.out noY wr (ExtX.refl _) rfl
      have hrl := hsh'.out z[i] (List.getElem_mem _)
      have hrB := hzB'.out z[i] (List.getElem_mem _)
      have hps := hid (posM_succ c y hiz)
      have hns := hid (negM_succ c y hiz)
      have hpl := posM_le c y (z.take i)
      have hnl := negM_le c y (z.take i)
      rw [List.length_take] at hpl hnl
      have hdv := hid (dot_vec (u := y) (z := z[i]) hy'.out)
      have hdb := dot_bounds2 (l := y) (m := z[i]) hyC hrB hC1 hB1 (by
        rw [hy'.out]
        have : c * (C + B + 1) <= 1000 * (C + B + 1) := Nat.mul_le_mul_right _ hc3
        omega)
      have hdot := rdot23_any X wr (.slice va y.length vca) (.slice a1 z[i].length c1) y z[i] hXr ⟨va, vca, rfl, hvca, hva.mono QV.mono (mk_ext hE)⟩ ⟨a1, c1, rfl, hcl1, hq1⟩ (by rw [hy'.out]; omega) (by rw [hy'.out]; exact hrl) hdb.1 hdb.2
      have hdq : Hid (hq (dotL y z[i]) <= 68719476736) := hid (hdb.1 _ (Nat.le_refl _))
      rw [<- hdv.out] at hps hns
      rw [hrl] at k00 hdot
      obtain ⟨D, hD⟩ : ∃ D, dotL y z[i] = D := ⟨_, rfl⟩
      rw [hD] at hps hns hdot hdq
      obtain ⟨P, hP⟩ : ∃ P, posM c y (z.take i) = P := ⟨_, rfl⟩
      obtain ⟨Q, hQ⟩ : ∃ Q, negM c y (z.take i) = Q := ⟨_, rfl⟩
      rw [hP] at hps hpl |-
      rw [hQ] at hns hnl |-
      have hP1 : P <= 1000000 := by omega
      have hQ1 : Q <= 1000000 := by omega
      clear hc1 hrl hrB hdb hD hP hQ hdv hcl1 hq1 hpl hnl
      rcases sign_cases D with ⟨hs, hsg⟩ | ⟨hs, hsg⟩ | ⟨hs, hsg⟩
      · have hp2 : Hid (Value.int .i64 ((P + 1 : Nat) : Int) = .int .i64 (posM c y (z.take (i + 1)) : Int)) := hid (by rw [hps.out, if_pos hs])
        have hn2 : Hid (Value.int .i64 (Q : Int) = .int .i64 (negM c y (z.take (i + 1)) : Int)) := hid (by rw [hns.out, if_neg (by grind)]; rfl)
        have hsg' := hid hsg
        clear hs hsg hps hns
        go_wp2_with (with_reducible refine up_ix1 slRats (by omega) (by assumption) ?_)
        refine hdot.mono ?_
        rintro e w5 ⟨hE5, u5, rfl, hu5⟩
        go_wp2_with fail
        refine (rqsign X w5 u5 D (hXr.ext hE5) (hu5.qv hdq.out)).mono ?_
        rintro e w6 ⟨hE6, rfl⟩
        rw [hsg'.out]
        have hE9 := hE.trans (hE5.trans hE6)
        clear k00 hdot
        go_wp2_with fail
        go_roundw
        case rel => exact ⟨i + 1, by go_num, by omega, by rw [<- hp2.out]; go_num, by rw [<- hn2.out], hE9⟩
        case measure => simp [intOf]; omega
      · have hp2 : Hid (Value.int .i64 (P : Int) = .int .i64 (posM c y (z.take (i + 1)) : Int)) := hid (by rw [hps.out, if_neg (by grind)]; rfl)
        have hn2 : Hid (Value.int .i64 (Q : Int) = .int .i64 (negM c y (z.take (i + 1)) : Int)) := hid (by rw [hns.out, if_neg (by grind)]; rfl)
        have hsg' := hid hsg
        clear hs hsg hps hns
        go_wp2_with (with_reducible refine up_ix1 slRats (by omega) (by assumption) ?_)
        refine hdot.mono ?_
        rintro e w5 ⟨hE5, u5, rfl, hu5⟩
        go_wp2_with fail
        refine (rqsign X w5 u5 D (hXr.ext hE5) (hu5.qv hdq.out)).mono ?_
        rintro e w6 ⟨hE6, rfl⟩
        rw [hsg'.out]
        have hE9 := hE.trans (hE5.trans hE6)
        clear k00 hdot
        go_wp2_with fail
        go_roundw
        case rel => exact ⟨i + 1, by go_num, by omega, by rw [<- hp2.out], by rw [<- hn2.out], hE9⟩
        case measure => simp [intOf]; omega
      · have hp2 : Hid (Value.int .i64 (P : Int) = .int .i64 (posM c y (z.take (i + 1)) : Int)) := hid (by rw [hps.out, if_neg (by grind)]; rfl)
        have hn2 : Hid (Value.int .i64 ((Q + 1 : Nat) : Int) = .int .i64 (negM c y (z.take (i + 1)) : Int)) := hid (by rw [hns.out, if_pos hs])
        have hsg' := hid hsg
        clear hs hsg hps hns
        go_wp2_with (with_reducible refine up_ix1 slRats (by omega) (by assumption) ?_)
        refine hdot.mono ?_
        rintro e w5 ⟨hE5, u5, rfl, hu5⟩
        go_wp2_with fail
        refine (rqsign X w5 u5 D (hXr.ext hE5) (hu5.qv hdq.out)).mono ?_
        rintro e w6 ⟨hE6, rfl⟩
        rw [hsg'.out]
        have hE9 := hE.trans (hE5.trans hE6)
        clear k00 hdot
        go_wp2_with fail
        go_roundw
        case rel => exact ⟨i + 1, by go_num, by omega, by rw [<- hp2.out], by rw [<- hn2.out]; go_num, hE9⟩
        case measure => simp [intOf]; omega
    · have hin : i = n := by omega
      subst hin
      obtain ⟨f1, f2⟩ := hfin.out
      obtain ⟨P, hP⟩ : ∃ P, posM c y z = P := ⟨_, rfl⟩
      obtain ⟨Q, hQ⟩ : ∃ Q, negM c y z = Q := ⟨_, rfl⟩
      rw [f1, f2, hP, hQ]
      have hPQ := hid (⟨hP, hQ⟩ : posM c y z = P /\ negM c y z = Q)
      clear f1 f2 hP hQ hfin
      go_wp2_with fail
      go_ret2
      exact ⟨hE, by rw [hPQ.out.1, hPQ.out.2]; rfl⟩
end Go.Proofs.YthipmbmjodhiiaaGreat
namespace Go.Rep
open Go.RowKit Go.Lim
abbrev hidF (X : Nat -> Bool) (fb : Nat) : Nat -> Bool := un X (some ⟨fb, 0, none⟩)
abbrev hidZ (X : Nat -> Bool) (fb : Nat) (po oo : Option Addr) : Nat -> Bool := un (un (hidF X fb) po) oo
structure RS (X : Nat -> Bool) (w0 : World) (b fb base : Nat) (T1 T2 T3 : TypeId) (w : World) (oo : Option Addr) (co : Nat) (po : Option Addr) (pc : Nat) (M : List (List Rat)) (p : List Nat) (f : Rat) : Prop where
  rows : OL RC 1 (un (hidF X fb) po) base T1 w oo co M
  piv : OL (NatIn .i64) 1 (un (hidF X fb) oo) base T3 w po pc p
  fac : ∃ s a n c d k e, Bx w fb #[.bool s, .slice a n c, .slice d k e] T2 /\ QC (mk (hidZ X fb po oo) w) (.agg #[.bool s, .slice a n c, .slice d k e]) f
  hx : HX X w
  res : Bx w b #[.bool false, .slice none 0 0, .slice none 0 0] T2
  rb : X b = true
  fb0 : fb ≠ b
  ext : Ext w0 w
  low : w0.heap.size <= base
  lowf : w0.heap.size <= fb
section
variable {X : Nat -> Bool} {w0 w w' : World} {b fb base : Nat} {T1 T2 T3 : TypeId} {oo po : Option Addr} {co pc : Nat} {M M' : List (List Rat)} {p : List Nat} {f f' : Rat}
theorem RS.oF (h : RS X w0 b fb base T1 T2 T3 w oo co po pc M p f) : ob oo fb = false := by
  cases hb : ob oo fb
  · rfl
  · have := h.rows.1 fb hb; rw [un_left (un_right (ob_self fb))] at this; simp at this
theorem RS.pF (h : RS X w0 b fb base T1 T2 T3 w oo co po pc M p f) : ob po fb = false := by
  cases hb : ob po fb
  · rfl
  · have := h.piv.1 fb hb; rw [un_left (un_right (ob_self fb))] at this; simp at this
theorem RS.oB (h : RS X w0 b fb base T1 T2 T3 w oo co po pc M p f) : ob oo b = false := by
  cases hb : ob oo b
  · rfl
  · have := h.rows.1 b hb; rw [un_left (un_left h.rb)] at this; simp at this
theorem RS.pB (h : RS X w0 b fb base T1 T2 T3 w oo co po pc M p f) : ob po b = false := by
  cases hb : ob po b
  · rfl
  · have := h.piv.1 b hb; rw [un_left (un_left h.rb)] at this; simp at this
theorem RS.po_oo (h : RS X w0 b fb base T1 T2 T3 w oo co po pc M p f) (k : Nat) (hk : ob po k = true) : ob oo k = false := (un_false (h.piv.1 k hk)).2
theorem RS.flt (h : RS X w0 b fb base T1 T2 T3 w oo co po pc M p f) : fb < w.heap.size := by
  obtain ⟨_, _, _, _, _, _, _, h1, _⟩ := h.fac; exact h1.lt
theorem RS.hz (h : RS X w0 b fb base T1 T2 T3 w oo co po pc M p f) : HX (hidZ X fb po oo) w := fun k hk => by
  by_cases h1 : ob oo k = true
  · exact (h.rows.block h1).2
  · by_cases h2 : ob po k = true
    · exact (h.piv.block h2).2
    · by_cases h3 : X k = true
      · exact h.hx k h3
      · have h1' : ob oo k = false := by simpa using h1
        have h2' : ob po k = false := by simpa using h2
        have h3' : X k = false := by simpa using h3
        have h4 : ob (some ⟨fb, 0, none⟩) k = true := by simpa [hidZ, hidF, un, h1', h2', h3'] using hk
        have : fb = k := by simpa [ob] using h4
        rw [<- this]; exact h.flt
theorem RS.row (h : RS X w0 b fb base T1 T2 T3 w oo co po pc M p f) (i : Nat) (hi : i < M.length) : ∃ a c, w.cell? (adr oo i) = some (.slice a M[i].length c) /\ w.frozen? (adr oo i) = false /\ M[i].length <= c /\ Sl QC 3 (_root_.Go.Rep.mk (hidZ X fb po oo) w) a M[i] := by
  obtain ⟨u, h1, h2, a, c, rfl, h4, h5⟩ := h.rows.cell SlV.one i hi
  exact ⟨a, c, h1, h2, h4, h5⟩
theorem RS.ext0 (h : RS X w0 b fb base T1 T2 T3 w oo co po pc M p f) (hE : Ext w w') : RS X w0 b fb base T1 T2 T3 w' oo co po pc M p f := by
  obtain ⟨s, a, n, c, d, k, e, h1, h2⟩ := h.fac
  exact ⟨h.rows.ext0 RC.elem hE, h.piv.ext0 (NatIn.elem _) hE, ⟨s, a, n, c, d, k, e, h1.ext0 hE, mkx QC.mono h2 hE⟩, h.hx.ext hE, h.res.ext0 hE, h.rb, h.fb0, h.ext.trans hE, h.low, h.lowf⟩
theorem RS.setRows (h : RS X w0 b fb base T1 T2 T3 w oo co po pc M p f) (hE : ExtX (ob oo) w w') (hO : OL RC 1 (un (hidF X fb) po) base T1 w' oo co M') : RS X w0 b fb base T1 T2 T3 w' oo co po pc M' p f := by
  obtain ⟨s, a, n, c, d, k, e, h1, h2⟩ := h.fac
  exact ⟨hO, h.piv.frame (NatIn.pure _) hE (fun k hk => h.po_oo k hk) h.piv.1, ⟨s, a, n, c, d, k, e, h1.ext hE h.oF, QC.mono _ _ _ _ (mk_mono hE fun k hk => un_right hk) h2⟩, h.hx.ext hE, h.res.ext hE h.oB, h.rb, h.fb0, h.ext.own h.rows h.low hE, h.low, h.lowf⟩
theorem RS.setFac (h : RS X w0 b fb base T1 T2 T3 w oo co po pc M p f) (hE : ExtX (ob (some ⟨fb, 0, none⟩)) w w') {s : Bool} {a : Option Addr} {n c : Nat} {d : Option Addr} {k e : Nat} (hB : Bx w' fb #[.bool s, .slice a n c, .slice d k e] T2) (hq : QC (_root_.Go.Rep.mk (hidZ X fb po oo) w') (.agg #[.bool s, .slice a n c, .slice d k e]) f') : RS X w0 b fb base T1 T2 T3 w' oo co po pc M p f' := by
  have hf : ∀ k, ob (some ⟨fb, 0, none⟩) k = true -> k = fb := fun k hk => by
    have : fb = k := by simpa [ob] using hk
    exact this.symm
  refine ⟨h.rows.ext RC.elem hE (fun k _ hk => un_left (un_right hk)) (fun _ _ h => h), h.piv.frame (NatIn.pure _) hE (fun k hk => ?_) h.piv.1, ⟨s, a, n, c, d, k, e, hB, hq⟩, h.hx.ext hE, h.res.ext hE (ob_other (Ne.symm h.fb0)), h.rb, h.fb0, h.ext.then_ hE fun k hk _ => ?_, h.low, h.lowf⟩
  · cases hb : ob (some ⟨fb, 0, none⟩) k
    · rfl
    · have := hf k hb; subst this; rw [h.pF] at hk; simp at hk
  · cases hb : ob (some ⟨fb, 0, none⟩) k
    · rfl
    · have := hf k hb; have := h.lowf; omega
theorem RS.push (h : RS X w0 b fb base T1 T2 T3 w oo co po pc M p f) {po2 : Option Addr} {pc2 j : Nat} (hE : ExtX (ob po) w w') (hP : OL (NatIn .i64) 1 (un (hidF X fb) oo) base T3 w' po2 pc2 (p ++ [j])) (hor : po2 = po \/ ∃ g, po2 = some ⟨g, 0, none⟩ /\ w.heap.size <= g) : RS X w0 b fb base T1 T2 T3 w' oo co po2 pc2 M (p ++ [j]) f := by
  obtain ⟨s, a, n, c, d, k, e, h1, h2⟩ := h.fac
  have hold : ∀ k, k < w.heap.size -> ob po2 k = true -> ob po k = true := fun k hk h9 => by
    rcases hor with rfl | ⟨g, rfl, hg⟩
    · exact h9
    · have : g = k := by simpa [ob] using h9
      omega
  have hF : ∀ k, k < w.heap.size -> un (hidF X fb) po2 k = true -> un (hidF X fb) po k = true := fun k hk hz => by
    by_cases hx : hidF X fb k = true
    · exact un_left hx
    · exact un_right (hold k hk (by simpa [un, hx] using hz))
  refine ⟨h.rows.ext RC.elem hE (fun k _ hk => un_right hk) hF, hP, ⟨s, a, n, c, d, k, e, h1.ext hE h.pF, QC.mono _ _ _ _ (mk_over hE (fun k _ hk => un_left (un_right hk)) fun k hk hz => ?_) h2⟩, h.hx.ext hE, h.res.ext hE h.pB, h.rb, h.fb0, h.ext.own h.piv h.low hE, h.low, h.lowf⟩
  by_cases ho : ob oo k = true
  · exact un_right ho
  · exact un_left (hF k hk (by simpa [un, ho] using hz))
end
end Go.Rep
namespace Go.Lin
open Go.Lim
def TameR (m : Mat) (c : Nat) : Prop := ∃ B, 6 * B <= 68719476736 /\ ∀ j, j <= c -> HB B (rN m j).1 /\ hq (rN m j).2.2 <= B
theorem rN_plen {n c : Nat} {m : Mat} (hs : Shp n c m) (k : Nat) : (rN m k).2.1.length <= n := (rN_ok hs k).ref.le
theorem tamer_of {n c B : Nat} {m : Mat} (hs : Shp n c m) (h : HB B m) (hB : 6 * (6 ^ n * B) <= 68719476736) : TameR m c :=
  ⟨6 ^ n * B, hB, fun j _ => by
    obtain ⟨h1, h2⟩ := h.rN hs j
    have hp : 6 ^ (rN m j).2.1.length * B <= 6 ^ n * B := Nat.mul_le_mul_right _ (Nat.pow_le_pow_right (by decide) (rN_plen hs j))
    exact ⟨h1.mono hp, Nat.le_trans h2 hp⟩⟩
theorem rN_succ (m : Mat) (k : Nat) : rN m (k + 1) = rStep (rN m k) k := rfl
theorem getD_row' {m : Mat} {i : Nat} (h : i < m.length) : m.getD i [] = m[i] := by simp [List.getD_eq_getElem?_getD, h]
theorem ent_row {m : Mat} {i : Nat} (h : i < m.length) (j : Nat) : ent m i j = (m[i]).getD j 0 := by unfold ent; rw [getD_row' h]
theorem nz_none {m : Mat} {n t col : Nat} (hl : m.length = n) (h : ∀ q, t <= q -> q < n -> ent m q col = 0) : nzAt m t col = none := by
  unfold nzAt
  rw [List.findIdx?_eq_none_iff]
  intro r hr
  obtain ⟨i, hi, rfl⟩ := List.getElem_of_mem hr
  rw [List.length_drop] at hi
  have := h (t + i) (by omega) (by omega)
  rw [ent_row (by omega)] at this
  simpa using this
theorem nz_some {m : Mat} {n t col a : Nat} (hl : m.length = n) (h : ∀ q, t <= q -> q < t + a -> ent m q col = 0) (ha : t + a < n) (hne : ent m (t + a) col ≠ 0) : nzAt m t col = some a := by
  unfold nzAt
  rw [List.findIdx?_eq_some_iff_getElem]
  refine ⟨by rw [List.length_drop]; omega, ?_, fun j hj => ?_⟩
  · rw [List.getElem_drop, <- ent_row (by omega)]; simpa using hne
  · rw [List.getElem_drop, <- ent_row (by omega)]; simpa using h (t + j) (by omega) (by omega)
theorem out_zero (m : Mat) (t col : Nat) : out m t col 0 = m := by
  unfold out rows
  refine List.ext_getElem (by simp) fun q h1 h2 => ?_
  rw [List.getElem_mapIdx, if_neg (by omega)]
theorem out_len (m : Mat) (t col s : Nat) : (out m t col s).length = m.length := by simp [out, rows]
theorem out_get {m : Mat} {t col s i : Nat} (h : i < (out m t col s).length) (h2 : i < m.length) : (out m t col s)[i] = if i ≠ t /\ i < s then List.zipWith (· + ·) m[i] ((m.getD t []).map (· * - m[i].getD col 0)) else m[i] := by
  show (m.mapIdx _)[i]'(by simpa using h2) = _
  rw [List.getElem_mapIdx]
theorem out_set {m : Mat} {t col s : Nat} (h : s < m.length) (hst : s ≠ t) : (out m t col s).set s (List.zipWith (· + ·) m[s] ((m.getD t []).map (· * - m[s].getD col 0))) = out m t col (s + 1) := by
  refine List.ext_getElem (by simp [out_len]) fun q h1 h2 => ?_
  have hq : q < m.length := by rw [out_len] at h2; exact h2
  rw [List.getElem_set, out_get h2 hq]
  split
  · subst_vars; rw [if_pos ⟨hst, by omega⟩]
  · rw [out_get (by simpa [out_len] using hq) hq]
    by_cases a : q ≠ t /\ q < s
    · rw [if_pos a, if_pos ⟨a.1, by omega⟩]
    · rw [if_neg a, if_neg (by omega)]
theorem out_skip {m : Mat} {t col : Nat} : out m t col t = out m t col (t + 1) := by
  refine List.ext_getElem (by simp [out_len]) fun q h1 h2 => ?_
  have hq : q < m.length := by rw [out_len] at h2; exact h2
  rw [out_get h1 hq, out_get h2 hq]
  by_cases a : q ≠ t /\ q < t
  · rw [if_pos a, if_pos ⟨a.1, by omega⟩]
  · rw [if_neg a, if_neg (by omega)]
theorem swapL_set {m : Mat} {i k : Nat} (hi : i < m.length) (hk : k < m.length) : (m.set i m[k]).set k m[i] = swapL m i k := by
  unfold swapL; rw [getD_row' hi, getD_row' hk]
theorem rN_piv {n c : Nat} {m M : Mat} {P : List Nat} {f : Rat} {j pl a : Nat} (hs : Shp n c m) (hst : rN m j = (M, P, f)) (hpl : P.length = pl) (hz : ∀ q, pl <= q -> q < pl + a -> ent M q j = 0) (ha : pl + a < n) (hne : ent M (pl + a) j ≠ 0) :
    rN m (j + 1) = (out (pv (swapL M (pl + a) pl) pl j) pl j n, P ++ [j], (if a = 0 then f else - f) * ent (swapL M (pl + a) pl) pl j) := by
  have hM : Shp n c M := by have := (rN_ok hs j).shp; rw [hst] at this; exact this
  subst hpl
  rw [rN_succ, hst]
  unfold rStep
  dsimp only
  rw [nz_some hM.1 hz ha hne]
  dsimp only
  rw [hM.1]
theorem rN_none {n c : Nat} {m M : Mat} {P : List Nat} {f : Rat} {j pl : Nat} (hs : Shp n c m) (hst : rN m j = (M, P, f)) (hpl : P.length = pl) (hz : ∀ q, pl <= q -> q < n -> ent M q j = 0) : rN m (j + 1) = (M, P, f) := by
  have hM : Shp n c M := by have := (rN_ok hs j).shp; rw [hst] at this; exact this
  subst hpl
  rw [rN_succ, hst]
  unfold rStep
  dsimp only
  rw [nz_none hM.1 hz]
end Go.Lin
namespace Go.Rep
open Go.RowKit
theorem ob_hid {X : Nat -> Bool} {b k : Nat} (h : X b = true) (hk : ob (some ⟨b, 0, none⟩) k = true) : X k = true := by
  have : b = k := by simpa [ob] using hk
  subst this; exact h
section
variable {P : Program} {w : World}
theorem results_ttb {fn : Func} {tmps : Array Value} {c d e : Tmp} {t : TypeId} {n b : Nat} {cs : Array Value} {T : TypeId} (h : fn.results = #[.tmp d, .tmp e, .cell c t]) (hp : tmps.getD c undef = .pointer (some ⟨b, 0, none⟩)) (hT : StructT P t n) (hb : Bx w b cs T) (hcs : cs.size = n) :
    (results fn tmps).run P w = .ok (.tuple #[tmps.getD d undef, tmps.getD e undef, .agg cs]) w := by
  have hl := run_loadBox (P := P) hT hb hcs
  rw [Array.getD_eq_getD_getElem?] at hp
  simp [results, h, hp, asAddr, hl]
end
end Go.Rep
