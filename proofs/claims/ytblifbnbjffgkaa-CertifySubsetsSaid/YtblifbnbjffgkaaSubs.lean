/- exact.Subsets, over whatever its callback keeps. Conditions: small numbers. -/
import Derived.Test.YtblifbnbjffgkaaRoom
import Derived.Test.YtblifbnbjffgkaaCombL
import Derived.Test.YtblifbnbjffgkaaFacts
import Derived.WalkKit
namespace Go.Rep
open Go.RowKit
theorem OL.hide0 {α : Type} {R : Mem → Value → α → Prop} {sz base cap : Nat} {X Z : Nat → Bool} {e : TypeId} {w : World} {ao : Option Addr} {l : List α} (h : OL R sz X base e w ao cap l) (hR0 : ∀ h h' u x, R h u x → R h' u x) (hz : ∀ k, ob ao k = true → Z k = false) : OL R sz Z base e w ao cap l := by
  obtain ⟨hx, us, h1, h2, h22, h3, h5⟩ := h
  exact ⟨hz, us, h1, h2, h22, h3, fun i hi hi' => hR0 _ _ _ _ (h5 i hi hi')⟩
end Go.Rep
namespace Go.Lim
theorem combs_nil {m h : Nat} {lo : Int} (hm : m < h) : combs m h lo = [] := List.eq_nil_of_length_eq_zero (by rw [combs_length, ch_gt m h hm])
end Go.Lim
namespace Go.Proofs.Ytblifbnbjffgkaa
open Go.RowKit Go.Rep Go.Lim

/-- The six blocks of a call of Subsets. -/
def ownB (base : Nat) : Nat → Bool := fun k => decide (base ≤ k) && decide (k < base + 6)
def hbB (W : World) (g : Nat) : Nat → Bool := fun k => decide (k < W.heap.size) && !(k == g)
/-- What lies in them. -/
structure FromSt (base n k : Nat) (fv : Value) (W : World) (Q : List Int) : Prop where
  bn : W.heap[base]? = some (.cells #[.int .i64 (n : Int)] 3 (0, 0))
  bk : W.heap[base + 1]? = some (.cells #[.int .i64 (k : Int)] 3 (0, 0))
  bf : W.heap[base + 2]? = some (.cells #[fv] 60 (0, 0))
  bl : W.heap[base + 4]? = some (.cells #[.slice (some ⟨base + 3, 0, none⟩) Q.length k] 22 (0, 0))
  br : W.heap[base + 5]? = some (.cells #[.func (.func 50) #[] #[.pointer (some ⟨base + 4, 0, none⟩), .pointer (some ⟨base + 1, 0, none⟩), .pointer (some ⟨base + 2, 0, none⟩), .pointer (some ⟨base, 0, none⟩), .pointer (some ⟨base + 5, 0, none⟩)]] 71 (0, 0))
  ol : OL (IntIn .i64) 1 (hbB W (base + 3)) base 3 W (some ⟨base + 3, 0, none⟩) k Q
  sz : base + 6 ≤ W.heap.size

/-- The blocks of a call of Subsets stay as they are. -/
def Keep (base : Nat) (W W' : World) : Prop := W.heap.size ≤ W'.heap.size ∧ ∀ k, ownB base k = true → W'.heap[k]? = W.heap[k]?

theorem ob3 {base k : Nat} (h : ob (some ⟨base, 0, none⟩) k = true) : base = k := by simpa [ob] using h
theorem hide3 {W : World} {base k : Nat} (h : ob (some ⟨base, 0, none⟩) k = true) : hbB W base k = false := by
  have := ob3 h
  subst this
  simp [hbB]
theorem intR0 : ∀ (h h' : Mem) (u : Value) (x : Int), IntIn .i64 h u x → IntIn .i64 h' u x := fun _ _ _ _ h => h

theorem FromSt.keep {base n k : Nat} {fv : Value} {W W' : World} {Q : List Int} (h : FromSt base n k fv W Q) (hk : Keep base W W') : FromSt base n k fv W' Q := by
  have hb : ∀ d, d < 6 → W'.heap[base + d]? = W.heap[base + d]? := fun d hd => hk.2 _ (by simp [ownB]; omega)
  refine ⟨by have := hb 0 (by omega); simp only [Nat.add_zero] at this; rw [this]; exact h.bn, by rw [hb 1 (by omega)]; exact h.bk, by rw [hb 2 (by omega)]; exact h.bf, by rw [hb 4 (by omega)]; exact h.bl, by rw [hb 5 (by omega)]; exact h.br, ?_, Nat.le_trans h.sz hk.1⟩
  have h0 := h.ol
  obtain ⟨hx, us, h1, h2, h22, ⟨h3, h4⟩, h5⟩ := h0
  refine ⟨fun k hk => hide3 hk, us, h1, h2, h22, ⟨h3, ?_⟩, fun i hi hi' => intR0 _ _ _ _ (h5 i hi hi')⟩
  rcases h4 with h4 | ⟨g, c, cur, hv, q1, q2, q3⟩
  · exact .inl h4
  · simp at hv
    obtain ⟨rfl, rfl⟩ := hv
    exact .inr ⟨base + 3, k, cur, by simp, q1, by rw [hb 3 (by omega)]; exact q2, q3⟩

theorem FromSt.set {base n k : Nat} {fv : Value} {W W1 : World} {Q Q' : List Int} (h : FromSt base n k fv W Q) (hE : ExtX (ob (some ⟨base + 3, 0, none⟩)) W W1) {X : Nat → Bool} (hO : OL (IntIn .i64) 1 X base 3 W1 (some ⟨base + 3, 0, none⟩) k Q') (m : Nat) (hm : m = Q'.length) :
    FromSt base n k fv (W1.setCell ⟨base + 4, 0, none⟩ (.slice (some ⟨base + 3, 0, none⟩) m k)) Q' ∧ ExtX (ownB base) W (W1.setCell ⟨base + 4, 0, none⟩ (.slice (some ⟨base + 3, 0, none⟩) m k)) ∧
      W1.cell? ⟨base + 4, 0, none⟩ = some (.slice (some ⟨base + 3, 0, none⟩) Q.length k) ∧ W1.frozen? ⟨base + 4, 0, none⟩ = false := by
  subst hm
  have hsz := h.sz
  have hE2 : ExtX (fun j => j == base + 4) W1 (W1.setCell ⟨base + 4, 0, none⟩ (.slice (some ⟨base + 3, 0, none⟩) Q'.length k)) :=
    ⟨rfl, rfl, rfl, by simp [World.setCell], fun j hj hy => Below.heap_setCell _ _ _ _ (fun e => by subst e; simp at hy)⟩
  have h1 : ∀ j, j < W.heap.size → j ≠ base + 3 → W1.heap[j]? = W.heap[j]? := fun j hj hn => hE.block j hj (by
    cases hh : ob (some ⟨base + 3, 0, none⟩) j
    · rfl
    · exact absurd (ob3 hh).symm hn)
  have h2 : ∀ j, j < W.heap.size → j ≠ base + 3 → j ≠ base + 4 → (W1.setCell ⟨base + 4, 0, none⟩ (.slice (some ⟨base + 3, 0, none⟩) Q'.length k)).heap[j]? = W.heap[j]? := fun j hj hn hn2 => by
    rw [hE2.block j (Nat.lt_of_lt_of_le hj hE.size) (by simpa using hn2), h1 j hj hn]
  have hbl := h1 (base + 4) (by omega) (by omega)
  rw [h.bl] at hbl
  have hnew : (W1.setCell ⟨base + 4, 0, none⟩ (.slice (some ⟨base + 3, 0, none⟩) Q'.length k)).heap[base + 4]? = some (.cells #[.slice (some ⟨base + 3, 0, none⟩) Q'.length k] 22 (0, 0)) := by
    simp only [World.setCell, Array.getElem?_modify, hbl]
    simp
  refine ⟨⟨by rw [h2 base (by omega) (by omega) (by omega)]; exact h.bn, by rw [h2 _ (by omega) (by omega) (by omega)]; exact h.bk, by rw [h2 _ (by omega) (by omega) (by omega)]; exact h.bf, hnew, by rw [h2 _ (by omega) (by omega) (by omega)]; exact h.br, ?_, by simp [World.setCell]; have := hE.size; omega⟩, ?_, by simp [World.cell?, hbl], by simp [World.frozen?, hbl]⟩
  · obtain ⟨hx, us, g1, g2, g22, ⟨g3, g4⟩, g5⟩ := hO
    refine ⟨fun k hk => hide3 hk, us, g1, g2, g22, ⟨g3, ?_⟩, fun i hi hi' => intR0 _ _ _ _ (g5 i hi hi')⟩
    rcases g4 with g4 | ⟨g, c, cur, hv, q1, q2, q3⟩
    · exact .inl g4
    · simp at hv
      obtain ⟨rfl, rfl⟩ := hv
      have hlt : base + 3 < W1.heap.size := by have := hE.size; omega
      exact .inr ⟨base + 3, k, cur, by simp, q1, by rw [hE2.block _ hlt (by simp)]; exact q2, q3⟩
  · refine ⟨hE2.os.trans hE.os, hE2.tape.trans hE.tape, hE2.output.trans hE.output, Nat.le_trans hE.size hE2.size, fun j hj hy => h2 j hj ?_ ?_⟩
    · intro e; subst e; simp [ownB] at hy
    · intro e; subst e; simp [ownB] at hy

section
variable (base n k : Nat) (caps : Array Value) (Inv : List (List Int) → World → Prop)

theorem from_any (hn : n ≤ 64) (hk : k ≤ 64)
    (hInv : ∀ done W W', Inv done W → ExtX (ownB base) W W' → Inv done W')
    (hCB : ∀ (done : List (List Int)) (s : List Int) (W : World), Inv done W → (∃ rest, done ++ [s] ++ rest = combs n k 0) → Sl (IntIn .i64) 1 W.cell? (some ⟨base + 3, 0, none⟩) s → base + 6 ≤ W.heap.size →
      Calls Try.prog 31 (#[.slice (some ⟨base + 3, 0, none⟩) s.length k] ++ caps) W (fun e W' => e = .returned (.tuple #[]) ∧ Inv (done ++ [s]) W' ∧ Keep base W W')) (g : Nat) :
    ∀ (i : Nat) (Q : List Int) (done : List (List Int)) (W : World), Q.length + g = k → i ≤ n + 1 → FromSt base n k (.func (.func 31) #[] caps) W Q → Inv done W → Hid (∃ rest, done ++ (combs (n - i) g i).map (Q ++ ·) ++ rest = combs n k 0) →
    Calls Try.prog 50 #[.int .i64 (i : Int), .pointer (some ⟨base + 4, 0, none⟩), .pointer (some ⟨base + 1, 0, none⟩), .pointer (some ⟨base + 2, 0, none⟩), .pointer (some ⟨base, 0, none⟩), .pointer (some ⟨base + 5, 0, none⟩)] W
      (fun e W' => e = .returned (.tuple #[]) ∧ FromSt base n k (.func (.func 31) #[] caps) W' Q ∧ Inv (done ++ (combs (n - i) g i).map (Q ++ ·)) W') := by
  induction g with
  | zero =>
    intro i Q done W hQ hi hst hiv hpre
    have cl : W.cell? ⟨base + 4, 0, none⟩ = some (.slice (some ⟨base + 3, 0, none⟩) Q.length k) := by simp [World.cell?, hst.bl]
    have ck : W.cell? ⟨base + 1, 0, none⟩ = some (.int .i64 (k : Int)) := by simp [World.cell?, hst.bk]
    have cf : W.cell? ⟨base + 2, 0, none⟩ = some (.func (.func 31) #[] caps) := by simp [World.cell?, hst.bf]
    have hs : Sl (IntIn .i64) 1 W.cell? (some ⟨base + 3, 0, none⟩) Q := by
      have := (hst.ol.hide0 intR0 (Z := noY) (fun k hk => rfl)).sl (IntIn.elem _)
      rw [mk_noY] at this; exact this
    have hQk : Q.length = k := by omega
    go_enter Try.func50, Try.ntmps50
    go_wp2_with fail
    have hcb := hCB done Q W hiv (by obtain ⟨rest, hr⟩ := hpre.out; rw [combs_zero] at hr; exact ⟨rest, by simpa using hr⟩) hs hst.sz
    rw [hQk] at hcb
    refine hcb.mono ?_
    rintro e w1 ⟨rfl, hiv1, hkp⟩
    have hst1 := hst.keep hkp
    have hfin : Hid (done ++ (combs (n - i) 0 i).map (Q ++ ·) = done ++ [Q]) := hid (by rw [combs_zero]; simp)
    clear hst hs cl ck cf hcb
    go_wp2_with fail
    refine bodyPost_ret (results_none rfl _ _ _) rfl ?_
    rw [hfin.out]
    exact ⟨rfl, hst1, hiv1⟩
  | succ g ih =>
    intro i Q done W hQ hi hst hiv hpre
    have cl : W.cell? ⟨base + 4, 0, none⟩ = some (.slice (some ⟨base + 3, 0, none⟩) Q.length k) := by simp [World.cell?, hst.bl]
    have ck : W.cell? ⟨base + 1, 0, none⟩ = some (.int .i64 (k : Int)) := by simp [World.cell?, hst.bk]
    have hQk : ((Q.length : Int) == (k : Int)) = false := beqF (by omega)
    go_enter Try.func50, Try.ntmps50
    go_wp2_with fail
    go_loopw [0] (fun c wr => ∃ (j : Nat) (D : List (List Int)), c = .int .i64 j ∧ j ≤ n + 1 ∧ FromSt base n k (.func (.func 31) #[] caps) wr Q ∧ Inv D wr ∧ Hid (D ++ (combs (n - j) (g + 1) j).map (Q ++ ·) = done ++ (combs (n - i) (g + 1) i).map (Q ++ ·)) ) (fun c _ => n + 1 - (intOf c).toNat)
    case atStart => exact ⟨i, done, rfl, hi, hst, hiv, hid rfl⟩
    case round =>
      obtain ⟨j, D, rfl, hj, hst1, hiv1, hDe⟩ := hrel
      clear cl ck hst hiv
      have cl : wr.cell? ⟨base + 4, 0, none⟩ = some (.slice (some ⟨base + 3, 0, none⟩) Q.length k) := by simp [World.cell?, hst1.bl]
      have ck : wr.cell? ⟨base + 1, 0, none⟩ = some (.int .i64 (k : Int)) := by simp [World.cell?, hst1.bk]
      have cn : wr.cell? ⟨base, 0, none⟩ = some (.int .i64 (n : Int)) := by simp [World.cell?, hst1.bn]
      by_cases hlt : j + g + 1 ≤ n
      · obtain ⟨m, hm⟩ : ∃ m, n - j = m + 1 := ⟨n - j - 1, by omega⟩
        have hmn : n - (j + 1) = m := by omega
        go_wp2_with (at_builtin; refine st_append_room slInt (IntIn.elem .i64) rfl rfl rfl hst1.ol (.int .i64 j) (j : Int) rfl rfl (by omega) ?_; intro w2 hO2 hE2; obtain ⟨hst2, hE3, cl2, fl2⟩ := hst1.set hE2 hO2 (Q.length + 1) (by simp); have cr := cell_of_one hst2.br)
        have hiv2 := hInv _ _ _ hiv1 hE3
        have hih := ih (j + 1) (Q ++ [(j : Int)]) D _ (by simp; omega) (by omega) hst2 hiv2 (hid (by
          obtain ⟨rest, hr⟩ := hpre.out
          refine ⟨(combs (n - (j + 1)) (g + 1) ((j + 1 : Nat) : Int)).map (Q ++ ·) ++ rest, ?_⟩
          rw [← hr, ← hDe.out, hm, hmn, combs, show ((j + 1 : Nat) : Int) = (j : Int) + 1 by omega]
          have hmm : (combs m g ((j : Int) + 1)).map ((Q ++ [(j : Int)]) ++ ·) = ((combs m g ((j : Int) + 1)).map ((j : Int) :: ·)).map (Q ++ ·) := by
            rw [List.map_map]
            apply List.map_congr_left
            intro r _
            simp
          rw [hmm, List.map_append]
          simp only [List.append_assoc]))
        rw [show ((j + 1 : Nat) : Int) = (j : Int) + 1 by omega] at hih
        refine hih.mono ?_
        rintro e w4 ⟨rfl, hst4, hiv4⟩
        clear hih
        have cl4 := cell_of_one hst4.bl
        rw [show (Q ++ [(j : Int)]).length = Q.length + 1 by simp] at cl4
        have htk := hst4.ol.take (IntIn.elem .i64).size Q.length
        rw [List.take_left] at htk
        obtain ⟨hst5, hE5, _, fl4⟩ := hst4.set (ExtX.refl _) htk Q.length rfl
        have hiv5 := hInv _ _ _ hiv4 hE5
        have hDe2 : Hid ((D ++ (combs (n - (j + 1)) g ((j : Int) + 1)).map ((Q ++ [(j : Int)]) ++ ·)) ++ (combs (n - (j + 1)) (g + 1) ((j + 1 : Nat) : Int)).map (Q ++ ·) = done ++ (combs (n - i) (g + 1) i).map (Q ++ ·)) := hid (by
          rw [← hDe.out, hm, hmn, combs, show ((j + 1 : Nat) : Int) = (j : Int) + 1 by omega]
          have hmm : (combs m g ((j : Int) + 1)).map ((Q ++ [(j : Int)]) ++ ·) = ((combs m g ((j : Int) + 1)).map ((j : Int) :: ·)).map (Q ++ ·) := by
            rw [List.map_map]
            apply List.map_congr_left
            intro r _
            simp
          rw [hmm, List.map_append, List.append_assoc])
        clear cl ck cn hst1 hiv1 hO2 hE2 hst2 hE3 cl2 fl2 cr hiv2 hm hmn
        go_wp2_with fail
        go_roundw
        case rel => exact ⟨j + 1, _, by go_num, by omega, hst5, hiv5, hDe2⟩
        case measure => simp [intOf]; omega
      · have hnil : Hid (D = done ++ (combs (n - i) (g + 1) i).map (Q ++ ·)) := hid (by
          have := hDe.out
          rw [combs_nil (by omega)] at this
          simpa using this)
        go_wp2_with fail
        go_end0
        rw [← hnil.out]
        exact ⟨rfl, hst1, hiv1⟩
end

theorem two_new (w : World) (u v : Value) (t1 t2 : TypeId) (wd : World) (h : (w.alloc (.cells #[u] t1)).alloc (.cells #[v] t2) = wd) : Ext w wd ∧ wd.heap[w.heap.size]? = some (.cells #[u] t1 (0, 0)) ∧ wd.heap[w.heap.size + 1]? = some (.cells #[v] t2 (0, 0)) ∧ wd.heap.size = w.heap.size + 2 := by
  subst h
  refine ⟨((ExtX.refl w).alloc _).alloc _, ?_, ?_, by simp⟩
  · rw [Below.heap_alloc _ _ _ (by simp)]; exact heap_alloc_new w _
  · have := heap_alloc_new (w.alloc (.cells #[u] t1)) (.cells #[v] t2 (0, 0))
    simpa using this

theorem infFn : (Try.prog.info? 71).map (fun i => (i.zero, i.size, i.bytes)) = some (some .nilFunc, 1, 8) := by kernel_rfl
theorem tyFn : TyI Try.prog 71 1 := let ⟨i, h, _, h2, _⟩ := info_parts infFn; ⟨i, h, h2⟩
theorem hbB_lt (W : World) (g : Nat) : ∀ j, hbB W g j = true → j < W.heap.size := fun j hj => by
  have h : j < W.heap.size ∧ ¬ j = g := by simpa [hbB] using hj
  exact h.1
theorem made_facts {w wb wc wd : World} {vk u v : Value} {t0 t1 t2 : TypeId} (hzb : wb.heap.size = w.heap.size + 3) (hEc : Ext wb wc) (hzc : wc.heap.size = wb.heap.size + 1) (hwd : (wc.alloc (.cells #[u] t1)).alloc (.cells #[v] t2) = wd) (b1 : wb.heap[w.heap.size + 1]? = some (.cells #[vk] t0 (0, 0))) :
    Ext wc wd ∧ wd.cell? ⟨w.heap.size + 3 + 1 + 1, 0, none⟩ = some v ∧ wd.frozen? ⟨w.heap.size + 3 + 1 + 1, 0, none⟩ = false ∧ wd.cell? ⟨w.heap.size + 1, 0, none⟩ = some vk ∧
      wd.heap[w.heap.size + 3 + 1]? = some (.cells #[u] t1 (0, 0)) ∧ wd.heap[w.heap.size + 3 + 1 + 1]? = some (.cells #[v] t2 (0, 0)) ∧ wd.heap.size = w.heap.size + 6 := by
  obtain ⟨hEd, d4, d5, hzd⟩ := two_new wc _ _ _ _ wd hwd
  have hz4 : wc.heap.size = w.heap.size + 3 + 1 := by omega
  rw [hz4] at d4 d5
  have e1 := (hEc.trans hEd).block (w.heap.size + 1) (by omega) rfl
  rw [b1] at e1
  exact ⟨hEd, cell_of_one d5, free_of_one d5, cell_of_one e1, d4, d5, by omega⟩

theorem FromSt.start {w wb wc wd : World} {n k : Nat} {fv : Value} {X : Nat → Bool} (hEb : Ext w wb) (hzb : wb.heap.size = w.heap.size + 3)
    (b0 : wb.heap[w.heap.size]? = some (.cells #[.int .i64 (n : Int)] 3 (0, 0))) (b1 : wb.heap[w.heap.size + 1]? = some (.cells #[.int .i64 (k : Int)] 3 (0, 0))) (b2 : wb.heap[w.heap.size + 2]? = some (.cells #[fv] 60 (0, 0)))
    (hEc : Ext wb wc) (hzc : wc.heap.size = wb.heap.size + 1) (hOc : OL (IntIn .i64) 1 X w.heap.size 3 wc (some ⟨wb.heap.size, 0, none⟩) k []) (hEd : Ext wc wd)
    (d4 : wd.heap[w.heap.size + 3 + 1]? = some (.cells #[.slice (some ⟨w.heap.size + 3, 0, none⟩) 0 k] 22 (0, 0))) (d5 : wd.heap[w.heap.size + 3 + 1 + 1]? = some (.cells #[.nilFunc] 71 (0, 0))) (hzd : wd.heap.size = w.heap.size + 6) :
    FromSt w.heap.size n k fv (wd.setCell ⟨w.heap.size + 3 + 1 + 1, 0, none⟩ (.func (.func 50) #[] #[.pointer (some ⟨w.heap.size + 3 + 1, 0, none⟩), .pointer (some ⟨w.heap.size + 1, 0, none⟩), .pointer (some ⟨w.heap.size + 1 + 1, 0, none⟩), .pointer (some ⟨w.heap.size, 0, none⟩), .pointer (some ⟨w.heap.size + 3 + 1 + 1, 0, none⟩)])) [] ∧
      ExtX (ownB w.heap.size) w (wd.setCell ⟨w.heap.size + 3 + 1 + 1, 0, none⟩ (.func (.func 50) #[] #[.pointer (some ⟨w.heap.size + 3 + 1, 0, none⟩), .pointer (some ⟨w.heap.size + 1, 0, none⟩), .pointer (some ⟨w.heap.size + 1 + 1, 0, none⟩), .pointer (some ⟨w.heap.size, 0, none⟩), .pointer (some ⟨w.heap.size + 3 + 1 + 1, 0, none⟩)])) := by
  obtain ⟨f, hf⟩ : ∃ f, Value.func (.func 50) #[] #[.pointer (some ⟨w.heap.size + 3 + 1, 0, none⟩), .pointer (some ⟨w.heap.size + 1, 0, none⟩), .pointer (some ⟨w.heap.size + 1 + 1, 0, none⟩), .pointer (some ⟨w.heap.size, 0, none⟩), .pointer (some ⟨w.heap.size + 3 + 1 + 1, 0, none⟩)] = f := ⟨_, rfl⟩
  rw [hf]
  have hother : ∀ j, j ≠ w.heap.size + 5 → (wd.setCell ⟨w.heap.size + 3 + 1 + 1, 0, none⟩ f).heap[j]? = wd.heap[j]? := fun j hj => Below.heap_setCell _ _ _ _ (fun e => hj e)
  have hE : Ext wb wd := hEc.trans hEd
  have hn5 : (wd.setCell ⟨w.heap.size + 3 + 1 + 1, 0, none⟩ f).heap[w.heap.size + 3 + 1 + 1]? = some (.cells #[f] 71 (0, 0)) := by
    simp only [World.setCell, Array.getElem?_modify, d5]
    simp
  refine ⟨⟨?_, ?_, ?_, ?_, ?_, ?_, by simp [World.setCell, hzd]⟩, ?_⟩
  · rw [hother _ (by omega), hE.block _ (by omega) rfl]; exact b0
  · rw [hother _ (by omega), hE.block _ (by omega) rfl]; exact b1
  · rw [hother _ (by omega), hE.block _ (by omega) rfl]; exact b2
  · rw [hother _ (by omega)]; exact d4
  · rw [← hf] at hn5 ⊢; exact hn5
  · rw [hzb] at hOc
    obtain ⟨hx, us, g1, g2, g22, ⟨g3, g4⟩, g5⟩ := hOc
    refine ⟨fun k hk => hide3 hk, us, g1, g2, g22, ⟨g3, ?_⟩, fun i hi hi' => intR0 _ _ _ _ (g5 i hi hi')⟩
    rcases g4 with g4 | ⟨g, c, cur, hv, q1, q2, q3⟩
    · exact .inl g4
    · simp at hv
      obtain ⟨rfl, rfl⟩ := hv
      exact .inr ⟨w.heap.size + 3, k, cur, by simp, q1, by rw [hother _ (by omega), hEd.block _ (by omega) rfl]; exact q2, q3⟩
  · refine ⟨hEd.os.trans (hEc.os.trans hEb.os), hEd.tape.trans (hEc.tape.trans hEb.tape), hEd.output.trans (hEc.output.trans hEb.output), by simp [World.setCell, hzd], fun j hj _ => ?_⟩
    rw [hother _ (by omega), (hEb.trans hE).block j hj rfl]

theorem subsets_any (n k : Nat) (caps : Array Value) (Inv : List (List Int) → World → Prop) (w : World) (hn : n ≤ 64) (hk : k ≤ 64)
    (hInv : ∀ done W W', Inv done W → ExtX (ownB w.heap.size) W W' → Inv done W')
    (hCB : ∀ (done : List (List Int)) (s : List Int) (W : World), Inv done W → (∃ rest, done ++ [s] ++ rest = combs n k 0) → Sl (IntIn .i64) 1 W.cell? (some ⟨w.heap.size + 3, 0, none⟩) s → w.heap.size + 6 ≤ W.heap.size →
      Calls Try.prog 31 (#[.slice (some ⟨w.heap.size + 3, 0, none⟩) s.length k] ++ caps) W (fun e W' => e = .returned (.tuple #[]) ∧ Inv (done ++ [s]) W' ∧ Keep w.heap.size W W'))
    (h0 : Inv [] w) :
    Calls Try.prog 30 #[.int .i64 (n : Int), .int .i64 (k : Int), .func (.func 31) #[] caps] w (fun e W' => e = .returned (.tuple #[]) ∧ Inv (combs n k 0) W') := by
  have hmf : ∀ (fn : Fn) (first cap : Array Value) (w : World), (Instr.makeFunc fn first cap).run Try.prog w = .ok (.func fn first cap) w := fun _ _ _ _ => rfl
  obtain ⟨wb, hwb⟩ : ∃ wb, (((w.alloc (.cells #[.int .i64 (n : Int)] 3)).alloc (.cells #[.int .i64 (k : Int)] 3)).alloc (.cells #[.func (.func 31) #[] caps] 60)) = wb := ⟨_, rfl⟩
  have hEb : Ext w wb := by rw [← hwb]; exact (((ExtX.refl w).alloc _).alloc _).alloc _
  have hzb : wb.heap.size = w.heap.size + 3 := by rw [← hwb]; simp
  have b0 : wb.heap[w.heap.size]? = some (.cells #[.int .i64 (n : Int)] 3 (0, 0)) := by
    rw [← hwb, Below.heap_alloc _ _ _ (by simp; omega), Below.heap_alloc _ _ _ (by simp)]; exact heap_alloc_new w _
  have b1 : wb.heap[w.heap.size + 1]? = some (.cells #[.int .i64 (k : Int)] 3 (0, 0)) := by
    rw [← hwb, Below.heap_alloc _ _ _ (by simp)]
    have := heap_alloc_new (w.alloc (.cells #[.int .i64 (n : Int)] 3)) (.cells #[.int .i64 (k : Int)] 3 (0, 0))
    simpa using this
  have b2 : wb.heap[w.heap.size + 2]? = some (.cells #[.func (.func 31) #[] caps] 60 (0, 0)) := by
    rw [← hwb]
    have := heap_alloc_new ((w.alloc (.cells #[.int .i64 (n : Int)] 3)).alloc (.cells #[.int .i64 (k : Int)] 3)) (.cells #[.func (.func 31) #[] caps] 60 (0, 0))
    simpa using this
  have ck := cell_of_one b1
  go_enter Try.func30, Try.ntmps30
  go_wp2_with (first | ((with_reducible show wpList _ _ _ (⟨_, .store _ _ _, _, _, _, _⟩ :: _) _ _); refine st_cell tyFn rfl rfl rfl rfl cd fd ?_) | (at_make; refine st_make0 (R := IntIn .i64) slInt rfl (hbB wb (w.heap.size + 3)) (hbB_lt wb _) w.heap.size hEb.size k rfl rfl rfl rfl (by omega) (by omega) ?_; intro wc hOc hEc hzc; obtain ⟨wd, hwd⟩ : ∃ wd, (wc.alloc (.cells #[.slice (some ⟨w.heap.size + 3, 0, none⟩) 0 k] 22)).alloc (.cells #[.nilFunc] 71) = wd := ⟨_, rfl⟩; obtain ⟨hEd, cd, fd, ck2, d4, d5, hzd⟩ := made_facts hzb hEc hzc hwd b1))
  obtain ⟨hst0, hEf⟩ := FromSt.start (fv := .func (.func 31) #[] caps) hEb hzb b0 b1 b2 hEc hzc hOc hEd d4 d5 hzd
  have hpre : Hid (∃ rest, ([] : List (List Int)) ++ (combs (n - 0) k ((0 : Nat) : Int)).map (([] : List Int) ++ ·) ++ rest = combs n k 0) := hid ⟨[], by simp⟩
  refine (from_any w.heap.size n k caps Inv hn hk hInv hCB k 0 [] [] _ (by simp) (by omega) hst0 (hInv _ _ _ h0 hEf) hpre).mono ?_
  rintro e w9 ⟨rfl, _, hiv⟩
  have hfin : Hid (([] : List (List Int)) ++ (combs (n - 0) k ((0 : Nat) : Int)).map (([] : List Int) ++ ·) = combs n k 0) := hid (by simp)
  rw [hfin.out] at hiv
  clear hst0 hEf cd fd ck2 d4 d5 hEd hOc hEc b0 b1 b2 hEb ck hwd hwb
  go_wp2_with fail
  go_end0
  exact ⟨rfl, hiv⟩
end Go.Proofs.Ytblifbnbjffgkaa
