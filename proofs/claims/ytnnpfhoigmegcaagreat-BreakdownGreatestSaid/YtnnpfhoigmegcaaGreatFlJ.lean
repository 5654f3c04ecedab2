/- Parts of a proof: each theorem states what it proves, and its conditions. -/
import Derived.Test.YtnnpfhoigmegcaaGreatFlI
import Derived.WalkKit
import Derived.Deep.RegionHeld3
import Derived.Deep.RegionLaw
import Derived.Deep.AppendLies
import Derived.BigRegion
import Derived.Sort.LotA
namespace Go.Rep
open Go.RowKit
theorem OL.hide0 {α : Type} {R : Mem -> Value -> α -> Prop} {sz base cap : Nat} {X Z : Nat -> Bool} {e : TypeId} {w : World} {ao : Option Addr} {l : List α} (h : OL R sz X base e w ao cap l) (hR0 : ∀ h h' u x, R h u x -> R h' u x) (hz : ∀ k, ob ao k = true -> Z k = false) : OL R sz Z base e w ao cap l := by
  obtain ⟨hx, us, h1, h2, h22, h3, h5⟩ := h
  exact ⟨hz, us, h1, h2, h22, h3, fun i hi hi' => hR0 _ _ _ _ (h5 i hi hi')⟩
end Go.Rep
namespace Go.Lim
theorem combs_nil {m h : Nat} {lo : Int} (hm : m < h) : combs m h lo = [] := List.eq_nil_of_length_eq_zero (by rw [combs_length, ch_gt m h hm])
end Go.Lim
namespace Go.Proofs.YtnnpfhoigmegcaaGreat
open Go.RowKit Go.Rep Go.Lim
def ownB (base : Nat) : Nat -> Bool := fun k => decide (base <= k) && decide (k < base + 6)
def hbB (W : World) (g : Nat) : Nat -> Bool := fun k => decide (k < W.heap.size) && !(k == g)
structure FromSt (base n k : Nat) (fv : Value) (W : World) (Q : List Int) : Prop where
  bn : W.heap[base]? = some (.cells #[.int .i64 (n : Int)] 3 (0, 0))
  bk : W.heap[base + 1]? = some (.cells #[.int .i64 (k : Int)] 3 (0, 0))
  bf : W.heap[base + 2]? = some (.cells #[fv] 155 (0, 0))
  bl : W.heap[base + 4]? = some (.cells #[.slice (some ⟨base + 3, 0, none⟩) Q.length k] 22 (0, 0))
  br : W.heap[base + 5]? = some (.cells #[.func (.func 222) #[] #[.pointer (some ⟨base + 4, 0, none⟩), .pointer (some ⟨base + 1, 0, none⟩), .pointer (some ⟨base + 2, 0, none⟩), .pointer (some ⟨base, 0, none⟩), .pointer (some ⟨base + 5, 0, none⟩)]] 209 (0, 0))
  ol : OL (IntIn .i64) 1 (hbB W (base + 3)) base 3 W (some ⟨base + 3, 0, none⟩) k Q
  sz : base + 6 <= W.heap.size
def Keep (base : Nat) (W W' : World) : Prop := W.heap.size <= W'.heap.size /\ ∀ k, ownB base k = true -> W'.heap[k]? = W.heap[k]?
theorem ob3 {base k : Nat} (h : ob (some ⟨base, 0, none⟩) k = true) : base = k := by simpa [ob] using h
theorem hide3 {W : World} {base k : Nat} (h : ob (some ⟨base, 0, none⟩) k = true) : hbB W base k = false := by
  have := ob3 h
  subst this
  simp [hbB]
theorem intR0 : ∀ (h h' : Mem) (u : Value) (x : Int), IntIn .i64 h u x -> IntIn .i64 h' u x := fun _ _ _ _ h => h
theorem FromSt.keep {base n k : Nat} {fv : Value} {W W' : World} {Q : List Int} (h : FromSt base n k fv W Q) (hk : Keep base W W') : FromSt base n k fv W' Q := by
  have hb : ∀ d, d < 6 -> W'.heap[base + d]? = W.heap[base + d]? := fun d hd => hk.2 _ (by simp [ownB]; omega)
  refine ⟨by have := hb 0 (by omega); simp only [Nat.add_zero] at this; rw [this]; exact h.bn, by rw [hb 1 (by omega)]; exact h.bk, by rw [hb 2 (by omega)]; exact h.bf, by rw [hb 4 (by omega)]; exact h.bl, by rw [hb 5 (by omega)]; exact h.br, ?_, Nat.le_trans h.sz hk.1⟩
  have h0 := h.ol
  obtain ⟨hx, us, h1, h2, h22, ⟨h3, h4⟩, h5⟩ := h0
  refine ⟨fun k hk => hide3 hk, us, h1, h2, h22, ⟨h3, ?_⟩, fun i hi hi' => intR0 _ _ _ _ (h5 i hi hi')⟩
  rcases h4 with h4 | ⟨g, c, cur, hv, q1, q2, q3⟩
  · exact .inl h4
  · simp at hv
    obtain ⟨rfl, rfl⟩ := hv
    exact .inr ⟨base + 3, k, cur, by simp, q1, by rw [hb 3 (by omega)]; exact q2, q3⟩
theorem FromSt.set {base n k : Nat} {fv : Value} {W W1 : World} {Q Q' : List Int} (h : FromSt base n k fv W Q) (hE : ExtX (ob (some ⟨base + 3, 0, none⟩)) W W1) {X : Nat -> Bool} (hO : OL (IntIn .i64) 1 X base 3 W1 (some ⟨base + 3, 0, none⟩) k Q') (m : Nat) (hm : m = Q'.length) :
    FromSt base n k fv (W1.setCell ⟨base + 4, 0, none⟩ (.slice (some ⟨base + 3, 0, none⟩) m k)) Q' /\ ExtX (ownB base) W (W1.setCell ⟨base + 4, 0, none⟩ (.slice (some ⟨base + 3, 0, none⟩) m k)) /\
      W1.cell? ⟨base + 4, 0, none⟩ = some (.slice (some ⟨base + 3, 0, none⟩) Q.length k) /\ W1.frozen? ⟨base + 4, 0, none⟩ = false := by
  subst hm
  have hsz := h.sz
  have hE2 : ExtX (fun j => j == base + 4) W1 (W1.setCell ⟨base + 4, 0, none⟩ (.slice (some ⟨base + 3, 0, none⟩) Q'.length k)) :=
    ⟨rfl, rfl, rfl, by simp [World.setCell], fun j hj hy => Below.heap_setCell _ _ _ _ (fun e => by subst e; simp at hy)⟩
  have h1 : ∀ j, j < W.heap.size -> j ≠ base + 3 -> W1.heap[j]? = W.heap[j]? := fun j hj hn => hE.block j hj (by
    cases hh : ob (some ⟨base + 3, 0, none⟩) j
    · rfl
    · exact absurd (ob3 hh).symm hn)
  have h2 : ∀ j, j < W.heap.size -> j ≠ base + 3 -> j ≠ base + 4 -> (W1.setCell ⟨base + 4, 0, none⟩ (.slice (some ⟨base + 3, 0, none⟩) Q'.length k)).heap[j]? = W.heap[j]? := fun j hj hn hn2 => by
    rw [hE2.block j (Nat.lt_of_lt_of_le hj hE.size) (by simpa using hn2), h1 j hj hn]
  have hbl := h1 (base + 4) (by omega) (by omega)
  rw [h.bl] at hbl
  have hnew : (W1.setCell ⟨base + 4, 0, none⟩ (.slice (some ⟨base + 3, 0, none⟩) Q'.length k)).heap[base + 4]? = some (.cells #[.slice (some ⟨base + 3, 0, none⟩) Q'.length k] 22 (0, 0)) := by
    simp only [World.setCell, Array.getElem?_modify, hbl]
    simp
  refine ⟨⟨by rw [h2 base (by omega) (by omega) (by omega)]; exact h.bn, by rw [h2 _ (by omega) (by omega) (by omega)]; exact h.bk, by rw [h2 _ (by omega) (by omega) (by omega)]; exact h.bf, hnew, by rw [h2 _ (by omega) (by omega) (by omega)]; exact h.br, ?_, by simp [World.setCell]; have := hE.size; omega⟩, ?_, by simp [World.cell?, hbl], by simp [World.frozen?, hbl]⟩
  · obtain ⟨hx, us, g1, g2, g22, ⟨g3, g4⟩, g5⟩ := hO
    refine ⟨fun k hk => hide3 hk, us, g1, g2, g22, ⟨g3, ?_⟩, fun i hi hi' => intR0 _ _ _ _ (g5 i hi hi')⟩
    rcases g4 with g4 | ⟨g, c, cur, hv, q1, q2, q3⟩
    · exact .inl g4
    · simp at hv
      obtain ⟨rfl, rfl⟩ := hv
      have hlt : base + 3 < W1.heap.size := by have := hE.size; omega
      exact .inr ⟨base + 3, k, cur, by simp, q1, by rw [hE2.block _ hlt (by simp)]; exact q2, q3⟩
  · refine ⟨hE2.os.trans hE.os, hE2.tape.trans hE.tape, hE2.output.trans hE.output, Nat.le_trans hE.size hE2.size, fun j hj hy => h2 j hj ?_ ?_⟩
    · intro e; subst e; simp [ownB] at hy
    · intro e; subst e; simp [ownB] at hy
section
variable (cb base n k : Nat) (caps : Array Value) (Inv : List (List Int) -> World -> Prop)
set_option maxRecDepth 100000 in
theorem from_any (hcf : ∀ (args : Array Value) (W : World), Sem.run Tryz.prog (callFunc cb args) W = .ok (.enter cb args) W) (hn : n <= 64) (hk : k <= 64)
    (hInv : ∀ done W W', Inv done W -> ExtX (ownB base) W W' -> Inv done W')
    (hCB : ∀ (done : List (List Int)) (s : List Int) (W : World), Inv done W -> (∃ rest, done ++ [s] ++ rest = combs n k 0) -> Sl (IntIn .i64) 1 W.cell? (some ⟨base + 3, 0, none⟩) s -> base + 6 <= W.heap.size ->
      Calls Tryz.prog cb (#[.slice (some ⟨base + 3, 0, none⟩) s.length k] ++ caps) W (fun e W' => e = .returned (.tuple #[]) /\ Inv (done ++ [s]) W' /\ Keep base W W')) (g : Nat) :
    ∀ (i : Nat) (Q : List Int) (done : List (List Int)) (W : World), Q.length + g = k -> i <= n + 1 -> FromSt base n k (.func (.func cb) #[] caps) W Q -> Inv done W -> Hid (∃ rest, done ++ (combs (n - i) g i).map (Q ++ ·) ++ rest = combs n k 0) ->
    Calls Tryz.prog 222 #[.int .i64 (i : Int), .pointer (some ⟨base + 4, 0, none⟩), .pointer (some ⟨base + 1, 0, none⟩), .pointer (some ⟨base + 2, 0, none⟩), .pointer (some ⟨base, 0, none⟩), .pointer (some ⟨base + 5, 0, none⟩)] W
      (fun e W' => e = .returned (.tuple #[]) /\ FromSt base n k (.func (.func cb) #[] caps) W' Q /\ Inv (done ++ (combs (n - i) g i).map (Q ++ ·)) W') := by
  induction g with
  | zero =>
    intro i Q done W hQ hi hst hiv hpre
    have cl : W.cell? ⟨base + 4, 0, none⟩ = some (.slice (some ⟨base + 3, 0, none⟩) Q.length k) := by simp [World.cell?, hst.bl]
    have ck : W.cell? ⟨base + 1, 0, none⟩ = some (.int .i64 (k : Int)) := by simp [World.cell?, hst.bk]
    have cf : W.cell? ⟨base + 2, 0, none⟩ = some (.func (.func cb) #[] caps) := by simp [World.cell?, hst.bf]
    have hs : Sl (IntIn .i64) 1 W.cell? (some ⟨base + 3, 0, none⟩) Q := by
      have := (hst.ol.hide0 intR0 (Z := noY) (fun k hk => rfl)).sl (IntIn.elem _)
      rw [mk_noY] at this; exact this
    have hQk : Q.length = k := by omega
    go_enter Tryz.func222, Tryz.ntmps222
    go_wp2_with fail
    have hcb := hCB done Q W hiv (by obtain ⟨rest, hr⟩ := hpre.out; rw [combs_zero] at hr; exact ⟨rest, by simpa using hr⟩) hs hst.sz
    rw [hQk] at hcb
    refine hcb.mono ?_
    rintro e w1 ⟨rfl, hiv1, hkp⟩
    have hst1 := hst.keep hkp
    have hfin : Hid (done ++ (combs (n - i) 0 i).map (Q ++ ·) = done ++ [Q]) := hid (by rw [combs_zero]; simp)
    clear hst hs cl ck cf hcb
    go_wp2_with fail
    refine bodyPost_ret (results_none rfl _ _ _) rfl ?_
    rw [hfin.out]
    exact ⟨rfl, hst1, hiv1⟩
  | succ g ih =>
    intro i Q done W hQ hi hst hiv hpre
    have cl : W.cell? ⟨base + 4, 0, none⟩ = some (.slice (some ⟨base + 3, 0, none⟩) Q.length k) := by simp [World.cell?, hst.bl]
    have ck : W.cell? ⟨base + 1, 0, none⟩ = some (.int .i64 (k : Int)) := by simp [World.cell?, hst.bk]
    have hQk : ((Q.length : Int) == (k : Int)) = false := beqF (by omega)
    go_enter Tryz.func222, Tryz.ntmps222
    go_wp2_with fail
    go_loopw [0] (fun c wr => ∃ (j : Nat) (D : List (List Int)), c = .int .i64 j /\ j <= n + 1 /\ FromSt base n k (.func (.func cb) #[] caps) wr Q /\ Inv D wr /\ Hid (D ++ (combs (n - j) (g + 1) j).map (Q ++ ·) = done ++ (combs (n - i) (g + 1) i).map (Q ++ ·)) ) (fun c _ => n + 1 - (intOf c).toNat)
    case atStart => exact ⟨i, done, rfl, hi, hst, hiv, hid rfl⟩
    case round =>
      obtain ⟨j, D, rfl, hj, hst1, hiv1, hDe⟩ := hrel
      clear cl ck hst hiv
      have cl : wr.cell? ⟨base + 4, 0, none⟩ = some (.slice (some ⟨base + 3, 0, none⟩) Q.length k) := by simp [World.cell?, hst1.bl]
      have ck : wr.cell? ⟨base + 1, 0, none⟩ = some (.int .i64 (k : Int)) := by simp [World.cell?, hst1.bk]
      have cn : wr.cell? ⟨base, 0, none⟩ = some (.int .i64 (n : Int)) := by simp [World.cell?, hst1.bn]
      by_cases hlt : j + g + 1 <= n
      · obtain ⟨m, hm⟩ : ∃ m, n - j = m + 1 := ⟨n - j - 1, by omega⟩
        have hmn : n - (j + 1) = m := by omega
        go_wp2_with (at_builtin; refine st_append_room slInt (IntIn.elem .i64) rfl rfl rfl hst1.ol (.int .i64 j) (j : Int) rfl rfl (by omega) ?_; intro w2 hO2 hE2; obtain ⟨hst2, hE3, cl2, fl2⟩ := hst1.set hE2 hO2 (Q.length + 1) (by simp); have cr := cell_of_one hst2.br)
        have hiv2 := hInv _ _ _ hiv1 hE3
        have hih := ih (j + 1) (Q ++ [(j : Int)]) D _ (by simp; omega) (by omega) hst2 hiv2 (hid (by
          obtain ⟨rest, hr⟩ := hpre.out
          refine ⟨(combs (n - (j + 1)) (g + 1) ((j + 1 : Nat) : Int)).map (Q ++ ·) ++ rest, ?_⟩
          rw [<- hr, <- hDe.out, hm, hmn, combs, show ((j + 1 : Nat) : Int) = (j : Int) + 1 by omega]
          have hmm : (combs m g ((j : Int) + 1)).map ((Q ++ [(j : Int)]) ++ ·) = ((combs m g ((j : Int) + 1)).map ((j : Int) :: ·)).map (Q ++ ·) := by
            rw [List.map_map]
            apply List.map_congr_left
            intro r _
            simp
          rw [hmm, List.map_append]
          simp only [List.append_assoc]))
        rw [show ((j + 1 : Nat) : Int) = (j : Int) + 1 by omega] at hih
        refine hih.mono ?_
        rintro e w4 ⟨rfl, hst4, hiv4⟩
        clear hih
        have cl4 := cell_of_one hst4.bl
        rw [show (Q ++ [(j : Int)]).length = Q.length + 1 by simp] at cl4
        have htk := hst4.ol.take (IntIn.elem .i64).size Q.length
        rw [List.take_left] at htk
        obtain ⟨hst5, hE5, _, fl4⟩ := hst4.set (ExtX.refl _) htk Q.length rfl
        have hiv5 := hInv _ _ _ hiv4 hE5
        have hDe2 : Hid ((D ++ (combs (n - (j + 1)) g ((j : Int) + 1)).map ((Q ++ [(j : Int)]) ++ ·)) ++ (combs (n - (j + 1)) (g + 1) ((j + 1 : Nat) : Int)).map (Q ++ ·) = done ++ (combs (n - i) (g + 1) i).map (Q ++ ·)) := hid (by
          rw [<- hDe.out, hm, hmn, combs, show ((j + 1 : Nat) : Int) = (j : Int) + 1 by omega]
          have hmm : (combs m g ((j : Int) + 1)).map ((Q ++ [(j : Int)]) ++ ·) = ((combs m g ((j : Int) + 1)).map ((j : Int) :: ·)).map (Q ++ ·) := by
            rw [List.map_map]
            apply List.map_congr_left
            intro r _
            simp
          rw [hmm, List.map_append, List.append_assoc])
        clear cl ck cn hst1 hiv1 hO2 hE2 hst2 hE3 cl2 fl2 cr hiv2 hm hmn
        go_wp2_with fail
        go_roundw
        case rel => exact ⟨j + 1, _, by go_num, by omega, hst5, hiv5, hDe2⟩
        case measure => simp [intOf]; omega
      · have hnil : Hid (D = done ++ (combs (n - i) (g + 1) i).map (Q ++ ·)) := hid (by
          have := hDe.out
          rw [combs_nil (by omega)] at this
          simpa using this)
        go_wp2_with fail
        go_end0
        rw [<- hnil.out]
        exact ⟨rfl, hst1, hiv1⟩
end
theorem two_new (w : World) (u v : Value) (t1 t2 : TypeId) (wd : World) (h : (w.alloc (.cells #[u] t1)).alloc (.cells #[v] t2) = wd) : Ext w wd /\ wd.heap[w.heap.size]? = some (.cells #[u] t1 (0, 0)) /\ wd.heap[w.heap.size + 1]? = some (.cells #[v] t2 (0, 0)) /\ wd.heap.size = w.heap.size + 2 := by
  subst h
  refine ⟨((ExtX.refl w).alloc _).alloc _, ?_, ?_, by simp⟩
  · rw [Below.heap_alloc _ _ _ (by simp)]; exact heap_alloc_new w _
  · have := heap_alloc_new (w.alloc (.cells #[u] t1)) (.cells #[v] t2 (0, 0))
    simpa using this
theorem infFn : (Tryz.prog.info? 209).map (fun i => (i.zero, i.size, i.bytes)) = some (some .nilFunc, 1, 8) := by kernel_rfl
theorem tyFn : TyI Tryz.prog 209 1 := let ⟨i, h, _, h2, _⟩ := info_parts infFn; ⟨i, h, h2⟩
theorem hbB_lt (W : World) (g : Nat) : ∀ j, hbB W g j = true -> j < W.heap.size := fun j hj => by
  have h : j < W.heap.size /\ ¬ j = g := by simpa [hbB] using hj
  exact h.1
theorem made_facts {w wb wc wd : World} {vk u v : Value} {t0 t1 t2 : TypeId} (hzb : wb.heap.size = w.heap.size + 3) (hEc : Ext wb wc) (hzc : wc.heap.size = wb.heap.size + 1) (hwd : (wc.alloc (.cells #[u] t1)).alloc (.cells #[v] t2) = wd) (b1 : wb.heap[w.heap.size + 1]? = some (.cells #[vk] t0 (0, 0))) :
    Ext wc wd /\ wd.cell? ⟨w.heap.size + 3 + 1 + 1, 0, none⟩ = some v /\ wd.frozen? ⟨w.heap.size + 3 + 1 + 1, 0, none⟩ = false /\ wd.cell? ⟨w.heap.size + 1, 0, none⟩ = some vk /\
      wd.heap[w.heap.size + 3 + 1]? = some (.cells #[u] t1 (0, 0)) /\ wd.heap[w.heap.size + 3 + 1 + 1]? = some (.cells #[v] t2 (0, 0)) /\ wd.heap.size = w.heap.size + 6 := by
  obtain ⟨hEd, d4, d5, hzd⟩ := two_new wc _ _ _ _ wd hwd
  have hz4 : wc.heap.size = w.heap.size + 3 + 1 := by omega
  rw [hz4] at d4 d5
  have e1 := (hEc.trans hEd).block (w.heap.size + 1) (by omega) rfl
  rw [b1] at e1
  exact ⟨hEd, cell_of_one d5, free_of_one d5, cell_of_one e1, d4, d5, by omega⟩
theorem FromSt.start {w wb wc wd : World} {n k : Nat} {fv : Value} {X : Nat -> Bool} (hEb : Ext w wb) (hzb : wb.heap.size = w.heap.size + 3)
    (b0 : wb.heap[w.heap.size]? = some (.cells #[.int .i64 (n : Int)] 3 (0, 0))) (b1 : wb.heap[w.heap.size + 1]? = some (.cells #[.int .i64 (k : Int)] 3 (0, 0))) (b2 : wb.heap[w.heap.size + 2]? = some (.cells #[fv] 155 (0, 0)))
    (hEc : Ext wb wc) (hzc : wc.heap.size = wb.heap.size + 1) (hOc : OL (IntIn .i64) 1 X w.heap.size 3 wc (some ⟨wb.heap.size, 0, none⟩) k []) (hEd : Ext wc wd)
    (d4 : wd.heap[w.heap.size + 3 + 1]? = some (.cells #[.slice (some ⟨w.heap.size + 3, 0, none⟩) 0 k] 22 (0, 0))) (d5 : wd.heap[w.heap.size + 3 + 1 + 1]? = some (.cells #[.nilFunc] 209 (0, 0))) (hzd : wd.heap.size = w.heap.size + 6) :
    FromSt w.heap.size n k fv (wd.setCell ⟨w.heap.size + 3 + 1 + 1, 0, none⟩ (.func (.func 222) #[] #[.pointer (some ⟨w.heap.size + 3 + 1, 0, none⟩), .pointer (some ⟨w.heap.size + 1, 0, none⟩), .pointer (some ⟨w.heap.size + 1 + 1, 0, none⟩), .pointer (some ⟨w.heap.size, 0, none⟩), .pointer (some ⟨w.heap.size + 3 + 1 + 1, 0, none⟩)])) [] /\
      ExtX (ownB w.heap.size) w (wd.setCell ⟨w.heap.size + 3 + 1 + 1, 0, none⟩ (.func (.func 222) #[] #[.pointer (some ⟨w.heap.size + 3 + 1, 0, none⟩), .pointer (some ⟨w.heap.size + 1, 0, none⟩), .pointer (some ⟨w.heap.size + 1 + 1, 0, none⟩), .pointer (some ⟨w.heap.size, 0, none⟩), .pointer (some ⟨w.heap.size + 3 + 1 + 1, 0, none⟩)])) := by
  obtain ⟨f, hf⟩ : ∃ f, Value.func (.func 222) #[] #[.pointer (some ⟨w.heap.size + 3 + 1, 0, none⟩), .pointer (some ⟨w.heap.size + 1, 0, none⟩), .pointer (some ⟨w.heap.size + 1 + 1, 0, none⟩), .pointer (some ⟨w.heap.size, 0, none⟩), .pointer (some ⟨w.heap.size + 3 + 1 + 1, 0, none⟩)] = f := ⟨_, rfl⟩
  rw [hf]
  have hother : ∀ j, j ≠ w.heap.size + 5 -> (wd.setCell ⟨w.heap.size + 3 + 1 + 1, 0, none⟩ f).heap[j]? = wd.heap[j]? := fun j hj => Below.heap_setCell _ _ _ _ (fun e => hj e)
  have hE : Ext wb wd := hEc.trans hEd
  have hn5 : (wd.setCell ⟨w.heap.size + 3 + 1 + 1, 0, none⟩ f).heap[w.heap.size + 3 + 1 + 1]? = some (.cells #[f] 209 (0, 0)) := by
    simp only [World.setCell, Array.getElem?_modify, d5]
    simp
  refine ⟨⟨?_, ?_, ?_, ?_, ?_, ?_, by simp [World.setCell, hzd]⟩, ?_⟩
  · rw [hother _ (by omega), hE.block _ (by omega) rfl]; exact b0
  · rw [hother _ (by omega), hE.block _ (by omega) rfl]; exact b1
  · rw [hother _ (by omega), hE.block _ (by omega) rfl]; exact b2
  · rw [hother _ (by omega)]; exact d4
  · rw [<- hf] at hn5 |-; exact hn5
  · rw [hzb] at hOc
    obtain ⟨hx, us, g1, g2, g22, ⟨g3, g4⟩, g5⟩ := hOc
    refine ⟨fun k hk => hide3 hk, us, g1, g2, g22, ⟨g3, ?_⟩, fun i hi hi' => intR0 _ _ _ _ (g5 i hi hi')⟩
    rcases g4 with g4 | ⟨g, c, cur, hv, q1, q2, q3⟩
    · exact .inl g4
    · simp at hv
      obtain ⟨rfl, rfl⟩ := hv
      exact .inr ⟨w.heap.size + 3, k, cur, by simp, q1, by rw [hother _ (by omega), hEd.block _ (by omega) rfl]; exact q2, q3⟩
  · refine ⟨hEd.os.trans (hEc.os.trans hEb.os), hEd.tape.trans (hEc.tape.trans hEb.tape), hEd.output.trans (hEc.output.trans hEb.output), by simp [World.setCell, hzd], fun j hj _ => ?_⟩
    rw [hother _ (by omega), (hEb.trans hE).block j hj rfl]
set_option maxRecDepth 100000 in
theorem subsets_any (cb n k : Nat) (caps : Array Value) (Inv : List (List Int) -> World -> Prop) (w : World) (hcf : ∀ (args : Array Value) (W : World), Sem.run Tryz.prog (callFunc cb args) W = .ok (.enter cb args) W) (hn : n <= 64) (hk : k <= 64)
    (hInv : ∀ done W W', Inv done W -> ExtX (ownB w.heap.size) W W' -> Inv done W')
    (hCB : ∀ (done : List (List Int)) (s : List Int) (W : World), Inv done W -> (∃ rest, done ++ [s] ++ rest = combs n k 0) -> Sl (IntIn .i64) 1 W.cell? (some ⟨w.heap.size + 3, 0, none⟩) s -> w.heap.size + 6 <= W.heap.size ->
      Calls Tryz.prog cb (#[.slice (some ⟨w.heap.size + 3, 0, none⟩) s.length k] ++ caps) W (fun e W' => e = .returned (.tuple #[]) /\ Inv (done ++ [s]) W' /\ Keep w.heap.size W W'))
    (h0 : Inv [] w) :
    Calls Tryz.prog 138 #[.int .i64 (n : Int), .int .i64 (k : Int), .func (.func cb) #[] caps] w (fun e W' => e = .returned (.tuple #[]) /\ Inv (combs n k 0) W') := by
  have hmf : ∀ (fn : Fn) (first cap : Array Value) (w : World), (Instr.makeFunc fn first cap).run Tryz.prog w = .ok (.func fn first cap) w := fun _ _ _ _ => rfl
  obtain ⟨wb, hwb⟩ : ∃ wb, (((w.alloc (.cells #[.int .i64 (n : Int)] 3)).alloc (.cells #[.int .i64 (k : Int)] 3)).alloc (.cells #[.func (.func cb) #[] caps] 155)) = wb := ⟨_, rfl⟩
  have hEb : Ext w wb := by rw [<- hwb]; exact (((ExtX.refl w).alloc _).alloc _).alloc _
  have hzb : wb.heap.size = w.heap.size + 3 := by rw [<- hwb]; simp
  have b0 : wb.heap[w.heap.size]? = some (.cells #[.int .i64 (n : Int)] 3 (0, 0)) := by
    rw [<- hwb, Below.heap_alloc _ _ _ (by simp; omega), Below.heap_alloc _ _ _ (by simp)]; exact heap_alloc_new w _
  have b1 : wb.heap[w.heap.size + 1]? = some (.cells #[.int .i64 (k : Int)] 3 (0, 0)) := by
    rw [<- hwb, Below.heap_alloc _ _ _ (by simp)]
    have := heap_alloc_new (w.alloc (.cells #[.int .i64 (n : Int)] 3)) (.cells #[.int .i64 (k : Int)] 3 (0, 0))
    simpa using this
  have b2 : wb.heap[w.heap.size + 2]? = some (.cells #[.func (.func cb) #[] caps] 155 (0, 0)) := by
    rw [<- hwb]
    have := heap_alloc_new ((w.alloc (.cells #[.int .i64 (n : Int)] 3)).alloc (.cells #[.int .i64 (k : Int)] 3)) (.cells #[.func (.func cb) #[] caps] 155 (0, 0))
    simpa using this
  have ck := cell_of_one b1
  go_enter Tryz.func138, Tryz.ntmps138
  go_wp2_with (first | ((with_reducible show wpList _ _ _ (⟨_, .store _ _ _, _, _, _, _⟩ :: _) _ _); refine st_cell tyFn rfl rfl rfl rfl cd fd ?_) | (at_make; refine st_make0 (R := IntIn .i64) slInt rfl (hbB wb (w.heap.size + 3)) (hbB_lt wb _) w.heap.size hEb.size k rfl rfl rfl rfl (by omega) (by omega) ?_; intro wc hOc hEc hzc; obtain ⟨wd, hwd⟩ : ∃ wd, (wc.alloc (.cells #[.slice (some ⟨w.heap.size + 3, 0, none⟩) 0 k] 22)).alloc (.cells #[.nilFunc] 209) = wd := ⟨_, rfl⟩; obtain ⟨hEd, cd, fd, ck2, d4, d5, hzd⟩ := made_facts hzb hEc hzc hwd b1))
  obtain ⟨hst0, hEf⟩ := FromSt.start (fv := .func (.func cb) #[] caps) hEb hzb b0 b1 b2 hEc hzc hOc hEd d4 d5 hzd
  have hpre : Hid (∃ rest, ([] : List (List Int)) ++ (combs (n - 0) k ((0 : Nat) : Int)).map (([] : List Int) ++ ·) ++ rest = combs n k 0) := hid ⟨[], by simp⟩
  refine (from_any cb w.heap.size n k caps Inv hcf hn hk hInv hCB k 0 [] [] _ (by simp) (by omega) hst0 (hInv _ _ _ h0 hEf) hpre).mono ?_
  rintro e w9 ⟨rfl, _, hiv⟩
  have hfin : Hid (([] : List (List Int)) ++ (combs (n - 0) k ((0 : Nat) : Int)).map (([] : List Int) ++ ·) = combs n k 0) := hid (by simp)
  rw [hfin.out] at hiv
  clear hst0 hEf cd fd ck2 d4 d5 hEd hOc hEc b0 b1 b2 hEb ck hwd hwb
  go_wp2_with fail
  go_end0
  exact ⟨rfl, hiv⟩
end Go.Proofs.YtnnpfhoigmegcaaGreat
namespace Go.Rep
open Go.RowKit Go.Lim
section
variable {P : Program} {ops : Array Oper} {Q : Exit -> Act -> World -> Prop} {a : Act} {w : World}
variable {α : Type} {R : Mem -> Value -> α -> Prop} {sz : Nat} {X : Nat -> Bool} {base : Nat} {e : TypeId} {ao : Option Addr} {cap : Nat} {l : List α}
end
end Go.Rep
namespace Go.Proofs.YtnnpfhoigmegcaaGreat
open Go.RowKit Go.Rep Go.Lim Go.Lin
def uB : Nat := 10000000000
def twoB (bc bs : Nat) : Nat -> Bool := fun k => (k == bc) || (k == bs)
def hidS (X : Nat -> Bool) (bc bs B0 : Nat) : Nat -> Bool := fun k => X k || twoB bc bs k || ownB B0 k
structure Lay (lo bo bu bc bd bs B0 : Nat) : Prop where
  lo1 : lo <= bo
  lo2 : lo <= bu
  lo3 : lo <= bc
  lo4 : lo <= bd
  lo5 : lo <= bs
  hi1 : bo < B0
  hi2 : bu < B0
  hi3 : bc < B0
  hi4 : bd < B0
  hi5 : bs < B0
  ne1 : bo ≠ bc
  ne2 : bo ≠ bs
  ne3 : bu ≠ bc
  ne4 : bu ≠ bs
  ne5 : bd ≠ bc
  ne6 : bd ≠ bs
  ne7 : bc ≠ bs
structure BSt (X : Nat -> Bool) (w0 : World) (bo bu bc bd bs B0 c : Nat) (oo : Option Addr) (n oc : Nat) (ov : Value) (z N : Mat) (cnt : Nat) (dv : Value) (us : Mat) (W : World) : Prop where
  ext : Ext w0 W
  b1 : Bx W bo #[.slice oo n oc] 25
  b2 : Bx W bu #[ov] 25
  b3 : Bx W bc #[.int .i64 (cnt : Int)] 3
  b4 : Bx W bd #[.int .i64 (c : Int)] 3
  b5 : Bx W bs #[dv] 25
  r1 : MV (mk (hidS X bc bs B0) W) (.slice oo n oc) z
  r2 : MV (mk (hidS X bc bs B0) W) ov N
  r3 : MV (mk (hidS X bc bs B0) W) dv us
section
variable {X : Nat -> Bool} {w0 W W' : World} {bo bu bc bd bs B0 c : Nat} {oo : Option Addr} {n oc : Nat} {ov : Value} {z N : Mat} {cnt : Nat} {dv : Value} {us : Mat}
theorem BSt.hx (_h : BSt X w0 bo bu bc bd bs B0 c oo n oc ov z N cnt dv us W) (hX : HX X w0) (hl : Lay w0.heap.size bo bu bc bd bs B0) (hB : B0 + 6 <= W.heap.size) : HX (hidS X bc bs B0) W := fun k hk => by
  have h1 := hl.hi3
  have h2 := hl.hi5
  have h0 := hl.lo1
  have h00 := hl.hi1
  simp only [hidS, twoB, ownB, Bool.or_eq_true, Bool.and_eq_true, beq_iff_eq, decide_eq_true_eq] at hk
  rcases hk with (h | h | h) | h
  · have := hX k h; omega
  · omega
  · omega
  · omega
theorem BSt.hxs (h : BSt X w0 bo bu bc bd bs B0 c oo n oc ov z N cnt dv us W) (hX : HX X w0) : HX (fun k => X k || twoB bc bs k) W := fun k hk => by
  have h3 := h.b3.lt
  have h5 := h.b5.lt
  have h0 := h.ext.size
  simp only [twoB, Bool.or_eq_true, beq_iff_eq] at hk
  rcases hk with h | h | h
  · have := hX k h; omega
  · omega
  · omega
theorem BSt.step (h : BSt X w0 bo bu bc bd bs B0 c oo n oc ov z N cnt dv us W) (hE : Ext W W') : BSt X w0 bo bu bc bd bs B0 c oo n oc ov z N cnt dv us W' :=
  ⟨h.ext.trans hE, h.b1.ext0 hE, h.b2.ext0 hE, h.b3.ext0 hE, h.b4.ext0 hE, h.b5.ext0 hE, mkx MV.mono h.r1 hE, mkx MV.mono h.r2 hE, mkx MV.mono h.r3 hE⟩
theorem BSt.own (h : BSt X w0 bo bu bc bd bs B0 c oo n oc ov z N cnt dv us W) (hl : Lay w0.heap.size bo bu bc bd bs B0) (hE : ExtX (ownB B0) W W') : BSt X w0 bo bu bc bd bs B0 c oo n oc ov z N cnt dv us W' := by
  have no : ∀ j, j < B0 -> ownB B0 j = false := fun j hj => by simp [ownB]; omega
  have hm := mk_mono (X := hidS X bc bs B0) hE fun k hk => by simp [hidS, hk]
  have := hl.lo1
  have := hl.hi1
  exact ⟨h.ext.then_ hE fun i hi _ => no i (by omega), h.b1.ext hE (no _ hl.hi1), h.b2.ext hE (no _ hl.hi2), h.b3.ext hE (no _ hl.hi3), h.b4.ext hE (no _ hl.hi4), h.b5.ext hE (no _ hl.hi5), MV.mono _ _ _ _ hm h.r1, MV.mono _ _ _ _ hm h.r2, MV.mono _ _ _ _ hm h.r3⟩
theorem BSt.put (h : BSt X w0 bo bu bc bd bs B0 c oo n oc ov z N cnt dv us W) (hl : Lay w0.heap.size bo bu bc bd bs B0) (cnt' : Nat) (dv' : Value) (us' : Mat) (hr : MV (_root_.Go.Rep.mk (hidS X bc bs B0) W) dv' us') :
    (W.setCell ⟨bc, 0, none⟩ (.int .i64 (cnt' : Int))).cell? ⟨bs, 0, none⟩ = some dv /\ (W.setCell ⟨bc, 0, none⟩ (.int .i64 (cnt' : Int))).frozen? ⟨bs, 0, none⟩ = false /\
    BSt X w0 bo bu bc bd bs B0 c oo n oc ov z N cnt' dv' us' ((W.setCell ⟨bc, 0, none⟩ (.int .i64 (cnt' : Int))).setCell ⟨bs, 0, none⟩ dv') /\ ExtX (twoB bc bs) W ((W.setCell ⟨bc, 0, none⟩ (.int .i64 (cnt' : Int))).setCell ⟨bs, 0, none⟩ dv') := by
  obtain ⟨p1, p2⟩ := setCell_block h.b3 (.int .i64 (cnt' : Int)) (i := 0) (by simp)
  have p5 := h.b5.ext p2 (ob_other hl.ne7.symm)
  obtain ⟨q1, q2⟩ := setCell_block p5 dv' (i := 0) (by simp)
  have hE : ExtX (twoB bc bs) W ((W.setCell ⟨bc, 0, none⟩ (.int .i64 (cnt' : Int))).setCell ⟨bs, 0, none⟩ dv') := by
    refine (p2.weaken fun k _ hk => ?_).trans (q2.weaken fun k _ hk => ?_)
    · refine ob_other fun e => ?_
      subst e; simp [twoB] at hk
    · refine ob_other fun e => ?_
      subst e; simp [twoB] at hk
  have hm := mk_mono (X := hidS X bc bs B0) hE fun k hk => by simp [hidS, hk]
  have n1 : twoB bc bs bo = false := by simp [twoB, hl.ne1, hl.ne2]
  have n2 : twoB bc bs bu = false := by simp [twoB, hl.ne3, hl.ne4]
  have n3 : twoB bc bs bd = false := by simp [twoB, hl.ne5, hl.ne6]
  have hlo3 := hl.lo3
  have hlo5 := hl.lo5
  refine ⟨p5.cell 0 rfl, p5.frozen 0, ⟨h.ext.then_ hE fun i hi _ => ?_, h.b1.ext hE n1, h.b2.ext hE n2, ?_, h.b4.ext hE n3, by simpa using q1, MV.mono _ _ _ _ hm h.r1, MV.mono _ _ _ _ hm h.r2, MV.mono _ _ _ _ hm hr⟩, hE⟩
  · simp [twoB]; omega
  · have := p1.ext q2 (ob_other hl.ne7)
    simpa using this
end
def BInv (X : Nat -> Bool) (w0 : World) (bo bu bc bd bs B0 c : Nat) (oo : Option Addr) (n oc : Nat) (ov : Value) (z N : Mat) (done : List (List Int)) (W : World) : Prop :=
  ∃ (cnt : Nat) (dv : Value) (us : Mat), BSt X w0 bo bu bc bd bs B0 c oo n oc ov z N cnt dv us W /\ Sofar c z cnt us /\ BM uB us /\ (∀ r ∈ us, r.length = c) /\ ∀ s ∈ done, Tried c (vecs z) (vecs N) cnt (s.map Int.toNat)
theorem BInv.own {X : Nat -> Bool} {w0 W W' : World} {bo bu bc bd bs B0 c : Nat} {oo : Option Addr} {n oc : Nat} {ov : Value} {z N : Mat} {done : List (List Int)} (h : BInv X w0 bo bu bc bd bs B0 c oo n oc ov z N done W) (hl : Lay w0.heap.size bo bu bc bd bs B0) (hE : ExtX (ownB B0) W W') : BInv X w0 bo bu bc bd bs B0 c oo n oc ov z N done W' := by
  obtain ⟨cnt, dv, us, h1, h2⟩ := h
  exact ⟨cnt, dv, us, h1.own hl hE, h2⟩
theorem Keep.trans {B0 : Nat} {A B C : World} (h : Keep B0 A B) (k : Keep B0 B C) : Keep B0 A C := ⟨Nat.le_trans h.1 k.1, fun i hi => (k.2 i hi).trans (h.2 i hi)⟩
end Go.Proofs.YtnnpfhoigmegcaaGreat
namespace Go.Lin
open Go.Lim Go.Rep Go.Proofs.YtnnpfhoigmegcaaGreat
theorem formedB_of {n c : Nat} {m : Mat} (hs : Shp n c m) (hn : n <= 96) (hc : 1 <= c) (hc2 : c <= 96) (h0 : 0 < n) : formedB m = true /\ colsL m = c := by
  have hcol : colsL m = c := by
    unfold colsL
    rw [List.getD_eq_getElem?_getD, List.getElem?_eq_getElem (by rw [hs.1]; exact h0)]
    exact hs.2 _ (List.getElem_mem _)
  refine ⟨formedB_true.2 ⟨by rw [hs.1]; exact hn, fun i hi => ?_⟩, hcol⟩
  rw [hcol, hs.2 _ (List.getElem_mem _)]
  exact ⟨hc, hc2, rfl⟩
end Go.Lin
namespace Go.Proofs.YtnnpfhoigmegcaaGreat
open Go.RowKit Go.Rep Go.Lim Go.Lin
theorem lit_rat1 (X : Nat -> Bool) (w : World) (s : Bool) (a : Option Addr) (n c : Nat) (d : Option Addr) (k e : Nat) (x : Rat) (t : TypeId) (hX : HX X w) (h : QC (mk X w) (.agg #[.bool s, .slice a n c, .slice d k e]) x) :
    OL QC 3 X w.heap.size t (w.alloc (.cells #[.bool s, .slice a n c, .slice d k e] t)) (some ⟨w.heap.size, 0, none⟩) 1 [x] :=
  OL.lit QC.elem hX (Nat.le_refl _) [.agg #[.bool s, .slice a n c, .slice d k e]] [x] _ (by simp [cellsL, Value.cells]) rfl (fun i hi _ => by
    have : i = 0 := by simpa using hi
    subst this; exact h) (by simp)
theorem BM.sub {B : Nat} {m l : List (List Rat)} (h : BM B m) (hs : ∀ r ∈ l, r ∈ m) : BM B l := fun r hr => h r (hs r hr)
end Go.Proofs.YtnnpfhoigmegcaaGreat
namespace Go.Proofs.YtnnpfhoigmegcaaGreat
open Go.RowKit Go.Rep Go.Lim
def NumR : Mem -> Value -> Nat -> Prop := fun h u n => ∃ ao cap l, u = .slice ao l.length cap /\ l.length <= cap /\ Canon l n /\ Sl (NatIn .u32) 1 h ao l
theorem NumR.mono : Mono NumR := by
  rintro h h' u x hl ⟨ao, cap, l, rfl, h1, h2, h3⟩
  exact ⟨ao, cap, l, rfl, h1, h2, h3.mono (NatIn.mono _) hl⟩
theorem NumR.one : OneCell NumR := by rintro h u x ⟨ao, cap, l, rfl, _⟩; rfl
theorem NumR.elem : Elem NumR 1 := ⟨NumR.mono, by rintro h u x ⟨ao, cap, l, rfl, _⟩; rfl, by rintro h u x ⟨ao, cap, l, rfl, _⟩ c hc; simp [cellsL, Value.cells] at hc; subst hc; rfl, Nat.one_pos⟩
theorem NumR.zero (h : Mem) : NumR h (.slice none 0 0) 0 := ⟨none, 0, [], rfl, by simp, Canon.nil, Sl.nil _ _ _ _⟩
end Go.Proofs.YtnnpfhoigmegcaaGreat
namespace Go.Proofs.YtnnpfhoigmegcaaGreat
open Go.RowKit Go.Rep Go.Lim
end Go.Proofs.YtnnpfhoigmegcaaGreat
namespace Go.Proofs.YtnnpfhoigmegcaaGreat
open Go.RowKit Go.Rep Go.Lim
def tbm (tb : Nat) : Nat -> Bool := fun k => k == tb
theorem tbm_self (tb : Nat) : tbm tb tb = true := by simp [tbm]
theorem tbm_ne {tb k : Nat} (h : k ≠ tb) : tbm tb k = false := by simpa [tbm] using h
def TapeR (X : Nat -> Bool) (tb : Nat) (w : World) : Prop :=
  X tb = true /\ ∃ (lo : Option Addr) (l : List Int) (cap at_ : Nat), w.heap[tb]? = some (.cells #[.slice lo l.length cap, .int .i64 (at_ : Int)] 103 (0, 0)) /\ l.length <= 400 /\ at_ <= l.length /\ Sl (IntIn .i64) 1 (mk X w) lo l
theorem tbm_sub {X : Nat -> Bool} {tb : Nat} (h : X tb = true) : ∀ k, tbm tb k = true -> X k = true := fun k hk => by
  have : k = tb := by simpa [tbm] using hk
  rw [this]; exact h
theorem TapeR.lt {X : Nat -> Bool} {tb : Nat} {w : World} (h : TapeR X tb w) : tb < w.heap.size := by
  obtain ⟨_, lo, l, cap, at_, h1, _⟩ := h
  by_cases hl : tb < w.heap.size
  · exact hl
  · rw [Array.getElem?_eq_none (by omega)] at h1; simp at h1
theorem TapeR.ext {X : Nat -> Bool} {tb : Nat} {w w' : World} (h : TapeR X tb w) (hE : Ext w w') : TapeR X tb w' := by
  have hlt := h.lt
  obtain ⟨hX, lo, l, cap, at_, h1, h2, h3, h4⟩ := h
  exact ⟨hX, lo, l, cap, at_, by rw [hE.block tb hlt rfl]; exact h1, h2, h3, h4.mono (IntIn.mono _) (mk_ext hE)⟩
theorem TapeR.extY {X Y : Nat -> Bool} {tb : Nat} {w w' : World} (h : TapeR X tb w) (hE : ExtX Y w w') (hY : ∀ k, Y k = true -> X k = true) (ht : Y tb = false) : TapeR X tb w' := by
  have hlt := h.lt
  obtain ⟨hX, lo, l, cap, at_, h1, h2, h3, h4⟩ := h
  exact ⟨hX, lo, l, cap, at_, by rw [hE.block tb hlt ht]; exact h1, h2, h3, h4.mono (IntIn.mono _) (mk_mono hE hY)⟩
def NextOut (X : Nat -> Bool) (tb : Nat) (w : World) (n : Int) (e : Ending) (w' : World) : Prop :=
  ExtX (tbm tb) w w' /\ TapeR X tb w' /\ ∃ m : Nat, e = .returned (.int .i64 (m : Int)) /\ ((m : Int) < n \/ m = 0)
theorem tmod_any (v n : Int) (w : World) (h1 : 1 <= n) (h2 : n <= 1099511627776) :
    Calls Tryz.prog 83 #[.int .i64 v, .int .i64 n] w (fun e w' => e = .returned (.int .i64 (v % n)) /\ w' = w) := by
  have hn0 : (n == 0) = false := beqF (by omega)
  have hlo : -n < v.tmod n := Int.lt_tmod_of_pos v (by omega)
  have hhi : v.tmod n < n := Int.tmod_lt_of_pos v (by omega)
  have hem : (v.tmod n < 0 -> v.tmod n + n = v % n) /\ (0 <= v.tmod n -> v.tmod n = v % n) := by
    have h := Int.tmod_eq_emod (a := v) (b := n)
    have e0 := Int.emod_nonneg v (show n ≠ 0 by omega)
    have e1 := Int.emod_lt_of_pos v (show 0 < n by omega)
    split at h <;> omega
  have hem' := hid hem
  clear hem
  go_enter Tryz.func83, Tryz.ntmps83
  go_wp2_with fail
  · go_ret
    exact ⟨ret_int (hem'.out.1 (by assumption)), rfl⟩
  · go_ret
    exact ⟨ret_int (hem'.out.2 (by assumption)), rfl⟩
theorem TapeR.cells {X : Nat -> Bool} {tb : Nat} {w : World} (h : TapeR X tb w) : ∃ (lo : Option Addr) (l : List Int) (cap at_ : Nat), w.cell? ⟨tb, 0, none⟩ = some (.slice lo l.length cap) /\ w.cell? ⟨tb, 1, none⟩ = some (.int .i64 (at_ : Int)) /\ w.frozen? ⟨tb, 1, none⟩ = false /\ l.length <= 400 /\ at_ <= l.length /\ Sl (IntIn .i64) 1 (mk X w) lo l /\
    ∀ at' : Nat, at' <= l.length -> TapeR X tb (w.setCell ⟨tb, 1, none⟩ (.int .i64 (at' : Int))) /\ ExtX (tbm tb) w (w.setCell ⟨tb, 1, none⟩ (.int .i64 (at' : Int))) /\
      (w.setCell ⟨tb, 1, none⟩ (.int .i64 (at' : Int))).cell? ⟨tb, 0, none⟩ = some (.slice lo l.length cap) /\ (w.setCell ⟨tb, 1, none⟩ (.int .i64 (at' : Int))).cell? ⟨tb, 1, none⟩ = some (.int .i64 (at' : Int)) := by
  have hlt := h.lt
  obtain ⟨hX, lo, l, cap, at_, h1, h2, h3, h4⟩ := h
  refine ⟨lo, l, cap, at_, by simp [World.cell?, h1], by simp [World.cell?, h1], by simp [World.frozen?, h1], h2, h3, h4, fun at' ha => ?_⟩
  have hE : ExtX (tbm tb) w (w.setCell ⟨tb, 1, none⟩ (.int .i64 (at' : Int))) :=
    ⟨rfl, rfl, rfl, by simp [World.setCell], fun k hk hy => Below.heap_setCell _ _ _ _ (fun e => by subst e; simp [tbm] at hy)⟩
  have hn : (w.setCell ⟨tb, 1, none⟩ (.int .i64 (at' : Int))).heap[tb]? = some (.cells #[.slice lo l.length cap, .int .i64 (at' : Int)] 103 (0, 0)) := by
    simp only [World.setCell, Array.getElem?_modify, h1]
    simp
  exact ⟨⟨hX, lo, l, cap, at', hn, h2, ha, h4.mono (IntIn.mono _) (mk_mono hE (tbm_sub hX))⟩, hE, by unfold World.cell?; rw [hn]; rfl, by unfold World.cell?; rw [hn]; rfl⟩
theorem TapeR.drewN {X : Nat -> Bool} {tb : Nat} {w : World} (h : TapeR X tb w) (n : Nat) : TapeR X tb (w.drewN n) := h
set_option maxHeartbeats 800000 in
theorem next_any (X : Nat -> Bool) (tb : Nat) (n : Int) (w : World) (ht : TapeR X tb w) (hn : n <= 1099511627776) :
    Calls Tryz.prog 21 #[.pointer (some ⟨tb, 0, none⟩), .int .i64 n] w (NextOut X tb w n) := by
  obtain ⟨lo, l, cap, at_, c0, c1, f1, hl, hat, hs, hset⟩ := ht.cells
  have hh := hs.hd
  by_cases h1 : n < 1
  · have hd : decide (n < 1) = true := decide_eq_true h1
    go_enter Tryz.func21, Tryz.ntmps21
    go_wp2_with fail
    go_quiet (fail)
    go_wp2_with fail
    go_ret
    exact ⟨(ExtX.refl _).drewN _, ht.drewN _, 0, rfl, .inr rfl⟩
  have hd : decide (n < 1) = false := decide_eq_false h1
  by_cases h2 : at_ < l.length
  · obtain ⟨ht2, hE2, k0, k1⟩ := hset (at_ + 1) (by omega)
    have hs2 := (hs.mono (IntIn.mono _) (mk_mono hE2 (tbm_sub ht.1))).int at_ h2
    obtain ⟨x, hx⟩ : ∃ x, l[at_] = x := ⟨_, rfl⟩
    rw [hx] at hs2
    clear hx hset
    have e1 : ((at_ + 1 : Nat) : Int) = (at_ : Int) + 1 := by omega
    rw [e1] at k0 k1 hs2 ht2 hE2
    have kk0 : ∀ N, ((w.drewN N).setCell ⟨tb, 1, none⟩ (.int .i64 ((at_ : Int) + 1))).cell? ⟨tb, 0, none⟩ = some (.slice lo l.length cap) := fun _ => k0
    have kk1 : ∀ N, ((w.drewN N).setCell ⟨tb, 1, none⟩ (.int .i64 ((at_ : Int) + 1))).cell? ⟨tb, 1, none⟩ = some (.int .i64 ((at_ : Int) + 1)) := fun _ => k1
    have kk2 : ∀ N, ((w.drewN N).setCell ⟨tb, 1, none⟩ (.int .i64 ((at_ : Int) + 1))).cell? (adr lo at_) = some (.int .i64 x) := fun _ => hs2
    have ew : IntKind.i64.wrap ((at_ : Int) + 1 - 1) = (at_ : Int) := by rw [IntWalk.i64_in _ (by omega)]; omega
    have ht3 : ∀ N, TapeR X tb ((w.drewN N).setCell ⟨tb, 1, none⟩ (.int .i64 ((at_ : Int) + 1))) := fun _ => ht2
    have hE3 : ∀ N, ExtX (tbm tb) w ((w.drewN N).setCell ⟨tb, 1, none⟩ (.int .i64 ((at_ : Int) + 1))) := fun _ => ⟨hE2.os, hE2.tape, hE2.output, hE2.size, hE2.block⟩
    have ht4 := hid ht3
    have hE4 := hid hE3
    clear e1 ht2 hE2 k0 k1 ht3 hE3
    have hd2 : decide ((l.length : Int) <= (at_ : Int)) = false := decide_eq_false (by omega)
    have i1 : ∀ W, (Instr.indexAt 22 (.slice lo l.length cap) (.int .i64 (at_ : Int))).run Tryz.prog W = .ok (.pointer (some (adr lo at_))) W := run_ix1 slInt lo l.length cap .i64 at_ hh h2 rfl
    go_enter Tryz.func21, Tryz.ntmps21
    go_wp2_with fail
    go_quiet (fail)
    go_wp2_with fail
    have hm0 := Int.emod_nonneg x (show n ≠ 0 by omega)
    have hm1 := Int.emod_lt_of_pos x (show 0 < n by omega)
    obtain ⟨m, hm⟩ := Int.eq_ofNat_of_zero_le hm0
    have hm' := hid hm
    have hm2 : Hid ((m : Int) < n) := hid (by rw [<- hm]; exact hm1)
    clear hm hm0 hm1
    go_quiet ((go_at_call 83; exact Calls.quiet_of_same (tmod_any x n _ (by omega) (by omega))))
    go_wp2_with fail
    go_ret
    exact ⟨(hE4.out _).drewN _, (ht4.out _).drewN _, m, ret_int hm'.out, .inl hm2.out⟩
  · have hd2 : decide ((l.length : Int) <= (at_ : Int)) = true := decide_eq_true (by omega)
    go_enter Tryz.func21, Tryz.ntmps21
    go_wp2_with fail
    go_quiet (fail)
    go_wp2_with fail
    go_ret
    exact ⟨(ExtX.refl _).drewN _, ht.drewN _, 0, rfl, .inr rfl⟩
end Go.Proofs.YtnnpfhoigmegcaaGreat
namespace Go.Proofs.YtnnpfhoigmegcaaGreat
open Go.RowKit Go.Rep Go.Lim
def TBoolOut (X : Nat -> Bool) (tb : Nat) (w : World) (e : Ending) (w' : World) : Prop := ExtX (tbm tb) w w' /\ TapeR X tb w' /\ ∃ b : Bool, e = .returned (.bool b)
def TIntOut (X : Nat -> Bool) (tb : Nat) (w : World) (lo hi : Int) (e : Ending) (w' : World) : Prop := ExtX (tbm tb) w w' /\ TapeR X tb w' /\ ∃ m : Int, e = .returned (.int .i64 m) /\ lo <= m /\ m <= hi
theorem tbool_any (X : Nat -> Bool) (tb : Nat) (n : Int) (w : World) (ht : TapeR X tb w) (h1 : -1000 <= n) (hn : n <= 1099511627776) :
    Calls Tryz.prog 16 #[.pointer (some ⟨tb, 0, none⟩), .int .i64 n] w (TBoolOut X tb w) := by
  go_enter Tryz.func16, Tryz.ntmps16
  go_wp2_with fail
  refine (next_any X tb n _ ht hn).mono ?_
  rintro e w1 ⟨hE, ht1, m, rfl, hm⟩
  go_wp2_with fail
  go_ret
  exact ⟨hE, ht1, _, rfl⟩
theorem pick_any (X : Nat -> Bool) (tb : Nat) (lo : Option Addr) (l : List Int) (cap : Nat) (w : World) (a b : Int) (ht : TapeR X tb w) (hs : Sl (IntIn .i64) 1 (mk X w) lo l) (h0 : 0 < l.length) (hl : l.length <= 1000) (hab : Hid (∀ x ∈ l, a <= x /\ x <= b)) :
    Calls Tryz.prog 82 #[.pointer (some ⟨tb, 0, none⟩), .slice lo l.length cap] w (TIntOut X tb w a b) := by
  have hh := hs.hd
  go_enter Tryz.func82, Tryz.ntmps82
  go_wp2_with fail
  refine (next_any X tb _ _ ht (by omega)).mono ?_
  rintro e w1 ⟨hE, ht1, m, rfl, hm⟩
  have hml : m < l.length := by omega
  have hc := (hs.mono (IntIn.mono _) (mk_mono hE (tbm_sub ht.1))).int m hml
  have hr := hab.out l[m] (List.getElem_mem hml)
  obtain ⟨x, hx⟩ : ∃ x, l[m] = x := ⟨_, rfl⟩
  rw [hx] at hc hr
  clear hx
  go_wp2_with (with_reducible refine up_ix1 slInt (by omega) (by assumption) ?_)
  go_ret
  exact ⟨hE, ht1, x, rfl, hr.1, hr.2⟩
theorem tnew_any (lo : Option Addr) (l : List Int) (cap : Nat) (w : World) (hs : Sl (IntIn .i64) 1 w.cell? lo l) (hl : l.length <= cap) (hb : l.length <= 9223372036854775807) :
    Calls Tryz.prog 14 #[.slice lo l.length cap] w (fun e w' => e = .returned (.pointer (some ⟨w.heap.size, 0, none⟩)) /\ Ext w w' /\ TapeR (tbm w.heap.size) w.heap.size w' /\ w'.heap.size = w.heap.size + 1) := by
  have key : ∀ (l : List Int), l.length <= 400 -> Sl (IntIn .i64) 1 w.cell? lo l -> TapeR (tbm w.heap.size) w.heap.size (w.alloc (.cells #[.slice lo l.length cap, .int .i64 0] 103)) := by
    intro l hl hs
    refine ⟨tbm_self _, lo, l, cap, 0, heap_alloc_new w _, hl, Nat.zero_le _, ?_⟩
    rw [<- mk_noY] at hs
    refine hs.mono (IntIn.mono _) (mk_over ((ExtX.refl (Y := noY) w).alloc _) (fun k _ hk => by simp [noY] at hk) fun k hk hz => ?_)
    have : k = w.heap.size := by simpa [tbm] using hz
    omega
  have hE : ∀ u v, Ext w (w.alloc (.cells #[u, v] 103)) := fun u v => (ExtX.refl w).alloc _
  by_cases h4 : 400 < l.length
  · have ht := hid (key (l.take 400) (by simp; omega) (hs.take 400))
    have hlen : (l.take 400).length = 400 := by simp; omega
    rw [hlen] at ht
    clear key hlen
    go_enter Tryz.func14, Tryz.ntmps14
    go_wp2_with fail
    go_ret
    exact ⟨rfl, hE _ _, ht.out, by simp⟩
  · have ht := hid (key l (by omega) hs)
    clear key
    go_enter Tryz.func14, Tryz.ntmps14
    go_wp2_with fail
    go_ret
    exact ⟨rfl, hE _ _, ht.out, by simp⟩
theorem lit_cells (l : List Int) : (l.map (Value.int .i64)).flatMap cellsL = l.map (Value.int .i64) := by
  induction l with
  | nil => rfl
  | cons x l ih => simp only [List.map_cons, List.flatMap_cons, ih]; rfl
theorem lit_sl (X : Nat -> Bool) (w : World) (l : List Int) (e : TypeId) (arr : Array Value) (harr : arr = (l.map (Value.int .i64)).toArray) (hX : ∀ k, X k = true -> k < w.heap.size) (hl : l.length <= 1000) :
    OL (IntIn .i64) 1 X w.heap.size e (w.alloc (.cells arr e)) (some ⟨w.heap.size, 0, none⟩) l.length l := by
  refine OL.lit (IntIn.elem .i64) hX (Nat.le_refl _) (l.map (Value.int .i64)) l arr ?_ (by simp) (fun i hi hi' => by simp [IntIn]) (by omega)
  rw [harr, lit_cells]
theorem lit_pick (X : Nat -> Bool) (tb : Nat) (l : List Int) (arr : Array Value) (e : TypeId) (len : Nat) (w : World) (a b : Int) (ht : TapeR X tb w) (hX : ∀ k, X k = true -> k < w.heap.size) (harr : arr = (l.map (Value.int .i64)).toArray) (hlen : len = l.length) (h0 : 0 < l.length) (hl : l.length <= 1000) (hab : Hid (∀ x ∈ l, a <= x /\ x <= b)) :
    Calls Tryz.prog 82 #[.pointer (some ⟨tb, 0, none⟩), .slice (some ⟨w.heap.size, 0, none⟩) len len] (w.alloc (.cells arr e)) (TIntOut X tb w a b) := by
  subst hlen
  have hE : Ext w (w.alloc (.cells arr e)) := (ExtX.refl w).alloc _
  refine (pick_any X tb _ l _ _ a b (ht.ext hE) (OL.sl (IntIn.elem .i64) (lit_sl X w l e arr harr hX hl)) h0 hl hab).mono ?_
  rintro e' w' ⟨hE', ht', r⟩
  exact ⟨(ExtX.of hE).trans hE', ht', r⟩
end Go.Proofs.YtnnpfhoigmegcaaGreat
namespace Go.Proofs.YtnnpfhoigmegcaaGreat
open Go.RowKit Go.Rep Go.Lim
theorem TapeR.unstep {X : Nat -> Bool} {tb : Nat} {w w' : World} {oo oo' : Option Addr} (h : TapeR (un X oo) tb w) (hb : ob oo tb = false) (hE : ExtX (ob oo) w w') (ho : oo' = oo \/ ∃ g, oo' = some ⟨g, 0, none⟩ /\ w.heap.size <= g) : TapeR (un X oo') tb w' := by
  have hlt := h.lt
  obtain ⟨hX, lo, l, cap, at_, h1, h2, h3, h4⟩ := h
  refine ⟨?_, lo, l, cap, at_, by rw [hE.block tb hlt hb]; exact h1, h2, h3, h4.unstep (IntIn.mono _) hE ho⟩
  have : X tb = true := by simpa [un, hb] using hX
  exact un_left this
theorem TapeR.unX {X : Nat -> Bool} {tb : Nat} {w : World} {oo : Option Addr} (h : TapeR (un X oo) tb w) (hX : X tb = true) : TapeR X tb w := by
  obtain ⟨_, lo, l, cap, at_, h1, h2, h3, h4⟩ := h
  exact ⟨hX, lo, l, cap, at_, h1, h2, h3, h4.unX (IntIn.mono _)⟩
theorem un_none (X : Nat -> Bool) : un X none = X := by funext k; simp [un, ob]
theorem TapeR.none {X : Nat -> Bool} {tb : Nat} {w : World} (h : TapeR X tb w) : TapeR (un X none) tb w := by rw [un_none]; exact h
theorem TapeR.old {X : Nat -> Bool} {tb : Nat} {w w' : World} {oo : Option Addr} (h : TapeR X tb w) (hE : Ext w w') (hb : ∀ j, j < w.heap.size -> ob oo j = false) : TapeR (un X oo) tb w' := by
  have hlt := h.lt
  obtain ⟨hX, lo, l, cap, at_, h1, h2, h3, h4⟩ := h
  exact ⟨un_left hX, lo, l, cap, at_, by rw [hE.block tb hlt rfl]; exact h1, h2, h3, h4.old (IntIn.mono _) hE hb⟩
theorem _root_.Go.Rep.OL.not_ob {α : Type} {R : Mem -> Value -> α -> Prop} {sz base cap : Nat} {e : TypeId} {ao : Option Addr} {l : List α} {X : Nat -> Bool} {w : World} (ho : OL R sz X base e w ao cap l) {k : Nat} (hk : X k = true) : ob ao k = false := by
  have h : ∀ k, ob ao k = true -> X k = false := ho.1
  cases hh : ob ao k
  · rfl
  · rw [h k hh] at hk; simp at hk
theorem ob_new (w : World) : ∀ j, j < w.heap.size -> ob (some ⟨w.heap.size, 0, none⟩) j = false := fun j hj => by
  cases hh : ob (some ⟨w.heap.size, 0, none⟩) j
  · rfl
  · have : w.heap.size = j := by simpa [ob] using hh
    omega
end Go.Proofs.YtnnpfhoigmegcaaGreat
namespace Go.Lin
open Go.Lim Go.Rep
end Go.Lin
namespace Go.Proofs.YtnnpfhoigmegcaaGreat
open Go.RowKit Go.Rep Go.Lim Go.Lin
end Go.Proofs.YtnnpfhoigmegcaaGreat
namespace Go.Proofs.YtnnpfhoigmegcaaGreat
open Go.RowKit Go.Rep Go.Lim Go.Lin
theorem rank_ok (X : Nat -> Bool) (w : World) (u : Value) (m : List (List Rat)) (hX : HX X w) (hu : MV (mk X w) u m) (hf : formedB m = true) (hT : TameE m (colsL m)) : Calls Tryz.prog 189 #[u] w (fun e w' => Ext w w' /\ e = .returned (.tuple #[.int .i64 (rankV m (colsL m) : Int), .int .i64 0])) := by
  obtain ⟨hsh, h96, hc96, _, _⟩ := formedB_shp hf
  have hfo := formed_any X w u m hu (by omega)
  rw [hf] at hfo
  have hco := copied_any X w u m m.length (colsL m) hX hu hsh rfl (by omega) (by omega)
  have hrv : Hid ((eN m (colsL m)).2.1.length = rankV m (colsL m)) := hid rfl
  clear hf
  go_enter Tryz.func189, Tryz.ntmps189
  go_wp2_with fail
  refine hfo.mono ?_
  rintro e w1 ⟨rfl, rfl⟩
  go_wp2_with fail
  refine hco.mono ?_
  rintro e w2 ⟨hE2, ao, cap, hs, rfl, hM2⟩
  go_wp2_with fail
  refine (echelon_any X _ w2 ao cap m.length (colsL m) hs m (hX.ext hE2) hM2 hsh rfl (by omega) (by omega) hT).mono ?_
  rintro e w3 ⟨hE3, po, pc, hs', rfl, hmb, hM3, hP3⟩
  have hEf := hM2.ext_from hE2 (Nat.le_refl _) hE3
  rw [hrv.out]
  go_wp2_with fail
  go_ret2
  exact ⟨hEf, rfl⟩
end Go.Proofs.YtnnpfhoigmegcaaGreat
namespace Go.Rep
open Go.RowKit
end Go.Rep
namespace Go.Lin
open Go.Lim Go.Rep
end Go.Lin
namespace Go.Proofs.YtnnpfhoigmegcaaGreat
open Go.RowKit Go.Rep Go.Lim Go.Lin
theorem Bx.store {w : World} {b : Nat} {v0 : Value} {T : TypeId} (h : Bx w b #[v0] T) (v : Value) : Bx (w.setCell ⟨b, 0, none⟩ v) b #[v] T /\ ExtX (ob (some ⟨b, 0, none⟩)) w (w.setCell ⟨b, 0, none⟩ v) := by
  obtain ⟨h1, h2⟩ := setCell_block h v (i := 0) (by simp)
  exact ⟨by simpa using h1, h2⟩
end Go.Proofs.YtnnpfhoigmegcaaGreat
namespace Go.Lin
open Go.Lim Go.Rep
end Go.Lin
namespace Go.Proofs.YtnnpfhoigmegcaaGreat
open Go.RowKit Go.Rep Go.Lim Go.Lin
end Go.Proofs.YtnnpfhoigmegcaaGreat
namespace Go.Proofs.YtnnpfhoigmegcaaGreat
open Go.RowKit Go.Rep Go.Lim Go.Lin
set_option maxRecDepth 100000 in
theorem eclean (X : Nat -> Bool) (w : World) (u : Value) (x : Rat) (hX : HX X w) (hu : QV (mk X w) u x) : Calls Tryz.prog 109 #[u] w (ROut X w QC x) := by
  obtain ⟨s1, a1, n1, c1, d1, k1, e1, rfl⟩ := hu.shape
  obtain ⟨W, hW, hE, b0, b1, hz⟩ := boxes2 w #[.bool s1, .slice a1 n1 c1, .slice d1 k1 e1] #[.bool false, .slice none 0 0, .slice none 0 0] 41 41
  have hXW : HX (hidB X w.heap.size 2) W := hX.boxes hz
  have hu1 := QV.mono _ _ _ _ (le_boxes (nb := 2) hE) hu
  obtain ⟨b, hb⟩ : ∃ b, w.heap.size = b := ⟨_, rfl⟩
  have hbw : w.heap.size <= b := by omega
  rw [hb] at b0 b1 hz hXW hu1
  have k00 := b0.cell 0 rfl
  have k01 := b0.cell 1 rfl
  have k02 := b0.cell 2 rfl
  have h0 : QV (mk (hidB X b 2) W) (.agg #[.bool false, .slice none 0 0, .slice none 0 0]) 0 := (QC.zero _).qv (by decide +kernel)
  have hx0 : x + 0 = x := by grind
  clear hu
  go_enter Tryz.func109, Tryz.ntmps109
  go_wp2_with fail
  refine (qadd (hidB X b 2) W _ _ x 0 hXW hu1 h0).mono ?_
  rintro ee w5 ⟨hE5, u5, rfl, hq5⟩
  rw [hx0] at hq5
  obtain ⟨s5, a5, n5, c5, d5, k5, e5, rfl⟩ := hq5.shape
  have b1' := b1.ext0 hE5
  clear k00 k01 k02
  go_wp2_with ((with_reducible show wpList _ _ _ (⟨_, .store 41 _ _, _, _, _, _⟩ :: _) _ _); refine st_storeBox stRat rfl rfl b1' rfl rfl (one3 _ _ _ _ _ _ _) ?_; intro w7 r1 r2)
  have h7 := QC.mono _ _ _ _ le_unbox (QC.mono _ _ _ _ (le_store r2 (by omega) (by omega)) hq5)
  exact bodyPost_ret (results_box rfl rfl stRat r1 rfl) rfl ⟨ExtX.box (hE.trans hE5) r2 (by omega), _, rfl, h7⟩
end Go.Proofs.YtnnpfhoigmegcaaGreat
namespace Go.Proofs.YtnnpfhoigmegcaaGreat
open Go.RowKit Go.Rep Go.Lim
end Go.Proofs.YtnnpfhoigmegcaaGreat
namespace Go.Lin
open Go.Lim
structure Mom where
  n : Int
  xx : Mat
  xy : List Rat
  yy : Rat
end Go.Lin
namespace Go.Rep
open Go.RowKit Go.Lim
def BlR : Mem -> Value -> Bool -> Prop := fun _ u b => u = .bool b
theorem BlR.mono : Mono BlR := fun _ _ _ _ _ h => h
theorem BlR.elem : Elem BlR 1 := ⟨fun _ _ _ _ _ h => h, by rintro h u x rfl; rfl, by
  rintro h u x rfl c hc; simp [cellsL, Value.cells] at hc; subst hc; rfl, Nat.one_pos⟩
theorem BlR.one : OneCell BlR := by rintro h u x rfl; rfl
theorem Sl.bl {h : Mem} {ao : Option Addr} {l : List Bool} (s : Sl BlR 1 h ao l) (i : Nat) (hi : i < l.length) : h (adr ao i) = some (.bool l[i]) := by
  obtain ⟨u, h1, rfl⟩ := s.cell BlR.one i hi
  exact h1
def MomR (A : Mem -> Value -> List (List Rat) -> Prop) (B : Mem -> Value -> List Rat -> Prop) (C : Mem -> Value -> Rat -> Prop) (h : Mem) (u : Value) (m : Go.Lin.Mom) : Prop :=
  ∃ xo xl xc yo yl yc s a n c d k e, u = .agg #[.int .i64 m.n, .slice xo xl xc, .slice yo yl yc, .bool s, .slice a n c, .slice d k e] /\ A h (.slice xo xl xc) m.xx /\ B h (.slice yo yl yc) m.xy /\ C h (.agg #[.bool s, .slice a n c, .slice d k e]) m.yy
def MomV := MomR MV RV QV
def MomC := MomR MC RC QC
theorem MomR.mono {A : Mem -> Value -> List (List Rat) -> Prop} {B : Mem -> Value -> List Rat -> Prop} {C : Mem -> Value -> Rat -> Prop} (hA : Mono A) (hB : Mono B) (hC : Mono C) : Mono (MomR A B C) := by
  rintro h h' u m hl ⟨xo, xl, xc, yo, yl, yc, s, a, n, c, d, k, e, rfl, h1, h2, h3⟩
  exact ⟨xo, xl, xc, yo, yl, yc, s, a, n, c, d, k, e, rfl, hA _ _ _ _ hl h1, hB _ _ _ _ hl h2, hC _ _ _ _ hl h3⟩
theorem MomV.mono : Mono MomV := MomR.mono MV.mono RV.mono QV.mono
theorem MomC.mono : Mono MomC := MomR.mono MC.mono RC.mono QC.mono
end Go.Rep
namespace Go.Lin
structure Fit where
  rank : Nat
  used : List Bool
  coef : List Rat
  res : List Rat
  rss : Rat
  lev : List Rat
end Go.Lin
namespace Go.Rep
def FitC (h : Mem) (v : Value) (f : Go.Lin.Fit) : Prop :=
  ∃ uo uc co cl cc ro rl rc s a n c d k e lo ll lc, v = .agg #[.int .i64 (f.rank : Int), .slice uo f.used.length uc, .slice co cl cc, .slice ro rl rc, .bool s, .slice a n c, .slice d k e, .slice lo ll lc] /\ f.used.length <= uc /\ Sl BlR 1 h uo f.used /\ RC h (.slice co cl cc) f.coef /\ RC h (.slice ro rl rc) f.res /\ QC h (.agg #[.bool s, .slice a n c, .slice d k e]) f.rss /\ RC h (.slice lo ll lc) f.lev
theorem FitC.mono : Mono FitC := by
  rintro h h' u f hl ⟨uo, uc, co, cl, cc, ro, rl, rc, s, a, n, c, d, k, e, lo, ll, lc, rfl, h0, h1, h2, h3, h4, h5⟩
  exact ⟨uo, uc, co, cl, cc, ro, rl, rc, s, a, n, c, d, k, e, lo, ll, lc, rfl, h0, h1.mono BlR.mono hl, RC.mono _ _ _ _ hl h2, RC.mono _ _ _ _ hl h3, QC.mono _ _ _ _ hl h4, RC.mono _ _ _ _ hl h5⟩
end Go.Rep
namespace Go.Rep
open Go.RowKit Go.Lim
section
variable {P : Program} {ops : Array Oper} {Q : Exit -> Act -> World -> Prop} {rest : List Oper} {a : Act} {w : World}
variable {d : Option Tmp} {ty : TypeId} {ps : String} {af : Array Edge}
theorem step_storeCell {o : Oper} {K : Act -> World -> Prop} {E : Prop} {t : TypeId} {x y : Operand} {b i : Nat} {cs : Array Value} {v : Value} {T : TypeId} (hg : o.guard = none) (hop : o.op = .store t x y) (hT : TyI P t 1) (hx : a.eval x = .pointer (some ⟨b, i, none⟩)) (hy : a.eval y = v) (hv : v.cells = #[v]) (hone : v.oneCell' = true) (hb : Bx w b cs T) (hi : i < cs.size)
    (hK : ∀ w', Bx w' b (cs.set i v) T -> ExtX (ob (some ⟨b, 0, none⟩)) w w' -> K (a.put o.dst undef) w') :
    if Region.wanted o (yielded ops a.tmps) = true then Oper.wp P o a w K Q else E := by
  have hw : Region.wanted o (yielded ops a.tmps) = true := by simp [Region.wanted, hg]
  rw [if_pos hw]
  obtain ⟨ti, ht, hts⟩ := hT
  obtain ⟨h1, h2⟩ := setCell_block hb v hi
  have hc := hb.cell i (u := cs[i]) (by simp [hi])
  have hf := hb.frozen i
  unfold Oper.wp execOp
  rw [hop]
  subst hy
  have hr := run_store P w ⟨b, i, none⟩ (a.eval y) .plain hone
  rw [hc, hf] at hr
  simp only [Bool.false_eq_true, if_false] at hr
  simp [hx, Instr.storeAt, Instr.sureAddr, storeVar, sizeOf, typeInfo, ht, hts, hv, Result.andThen, storeCells, Addr.add_zero', hr]
  exact hK _ h1 h2
theorem un_none (X : Nat -> Bool) : un X none = X := by funext k; simp [un, ob]
end
end Go.Rep
namespace Go.Proofs.YtnnpfhoigmegcaaGreat
open Go.RowKit Go.Rep
end Go.Proofs.YtnnpfhoigmegcaaGreat
namespace Go.Proofs.YtnnpfhoigmegcaaGreat
open Go.RowKit Go.Rep Go.Lim
theorem eless (X : Nat -> Bool) (w : World) (u v : Value) (x y : Rat) (hX : HX X w) (hu : QV (mk X w) u x) (hv : QV (mk X w) v y) : Calls Tryz.prog 94 #[u, v] w (BOut w (decide (cmpQ x y < 0))) := by
  have hlx := hid hu.hq
  have hly := hid hv.hq
  obtain ⟨s1, a1, n1, c1, d1, k1, e1, rfl⟩ := hu.shape
  obtain ⟨s2, a2, n2, c2, d2, k2, e2, rfl⟩ := hv.shape
  obtain ⟨W, hW, hE, b0, b1, hz⟩ := boxes2 w #[.bool s1, .slice a1 n1 c1, .slice d1 k1 e1] #[.bool s2, .slice a2 n2 c2, .slice d2 k2 e2] 41 41
  have hXW : HX (hidB X w.heap.size 2) W := hX.boxes hz
  have hu1 := QV.mono _ _ _ _ (le_boxes (nb := 2) hE) hu
  have hv1 := QV.mono _ _ _ _ (le_boxes (nb := 2) hE) hv
  obtain ⟨b, hb⟩ : ∃ b, w.heap.size = b := ⟨_, rfl⟩
  have hbw : w.heap.size <= b := by omega
  rw [hb] at b0 b1 hz hXW hu1 hv1
  have hEd : Ext W W.drew := (ExtX.refl W).drew
  have hXd : HX (hidB X b 2) W.drew := hXW
  have hud : QV (mk (hidB X b 2) W.drew) (.agg #[.bool s1, .slice a1 n1 c1, .slice d1 k1 e1]) x := hu1
  have hvd : QV (mk (hidB X b 2) W.drew) (.agg #[.bool s2, .slice a2 n2 c2, .slice d2 k2 e2]) y := hv1
  have k00 := b0.cell 0 rfl
  have k01 := b0.cell 1 rfl
  have k02 := b0.cell 2 rfl
  have k10 := b1.cell 0 rfl
  have k11 := b1.cell 1 rfl
  have k12 := b1.cell 2 rfl
  clear hu hv
  obtain ⟨c, hc⟩ : ∃ c : Int, cmpQ x y = c := ⟨_, rfl⟩
  have hq := qcompare (hidB X b 2) W _ _ x y hXW hu1 hv1
  rw [hc] at hq |-
  clear hEd hXd hud hvd hc
  go_enter Tryz.func94, Tryz.ntmps94
  go_wp2_with fail
  refine hq.mono ?_
  rintro e w5 ⟨hE5, rfl⟩
  clear k00 k01 k02 k10 k11 k12 hq
  go_wp2_with fail
  go_ret
  exact ⟨hE.trans hE5, rfl⟩
set_option maxRecDepth 100000 in
theorem equot (X : Nat -> Bool) (w : World) (u v : Value) (x y : Rat) (hX : HX X w) (hu : QV (mk X w) u x) (hv : QV (mk X w) v y) : Calls Tryz.prog 152 #[u, v] w (ROut X w QC (x / y)) := by
  have hlx := hid hu.hq
  have hly := hid hv.hq
  obtain ⟨s1, a1, n1, c1, d1, k1, e1, rfl⟩ := hu.shape
  obtain ⟨s2, a2, n2, c2, d2, k2, e2, rfl⟩ := hv.shape
  obtain ⟨W, hW, hE, b0, b1, b2, hz⟩ := boxes3 w #[.bool s1, .slice a1 n1 c1, .slice d1 k1 e1] #[.bool s2, .slice a2 n2 c2, .slice d2 k2 e2] #[.bool false, .slice none 0 0, .slice none 0 0] 41 41 41
  have hXW : HX (hidB X w.heap.size 3) W := hX.boxes hz
  have hu1 := QV.mono _ _ _ _ (le_boxes (nb := 3) hE) hu
  have hv1 := QV.mono _ _ _ _ (le_boxes (nb := 3) hE) hv
  obtain ⟨b, hb⟩ : ∃ b, w.heap.size = b := ⟨_, rfl⟩
  have hbw : w.heap.size <= b := by omega
  rw [hb] at b0 b1 b2 hz hXW hu1 hv1
  have hEd : Ext W W.drew := (ExtX.refl W).drew
  have hXd : HX (hidB X b 3) W.drew := hXW
  have hud : QV (mk (hidB X b 3) W.drew) (.agg #[.bool s1, .slice a1 n1 c1, .slice d1 k1 e1]) x := hu1
  have hvd : QV (mk (hidB X b 3) W.drew) (.agg #[.bool s2, .slice a2 n2 c2, .slice d2 k2 e2]) y := hv1
  have k00 := b0.cell 0 rfl
  have k01 := b0.cell 1 rfl
  have k02 := b0.cell 2 rfl
  have k10 := b1.cell 0 rfl
  have k11 := b1.cell 1 rfl
  have k12 := b1.cell 2 rfl
  clear hu hv
  obtain ⟨ec, hec⟩ : ∃ ec : Int, e5 (decide (y = 0)) = ec := ⟨_, rfl⟩
  obtain ⟨q, hq⟩ : ∃ q : Rat, x / y = q := ⟨_, rfl⟩
  have hd := qdiv (hidB X b 3) W _ _ x y hXW hu1 hv1
  rw [hec, hq] at hd
  rw [hq]
  clear hEd hXd hud hvd hec hq
  go_enter Tryz.func152, Tryz.ntmps152
  go_wp2_with fail
  refine hd.mono ?_
  rintro e w5 ⟨hE5, u5, rfl, hu5⟩
  have hu5' := hid hu5
  obtain ⟨s5, a5, n5, c5, d5, k5, f5, rfl⟩ := hu5.shape
  have b5 := b2.ext0 hE5
  have FR : Ext w5 (w5.alloc (.cells #[.bool s5, .slice a5 n5 c5, .slice d5 k5 f5] 41)) := (ExtX.refl _).alloc _
  have xR := Bx.new w5 #[.bool s5, .slice a5 n5 c5, .slice d5 k5 f5] 41
  have p0 := xR.cell 0 rfl
  have p1 := xR.cell 1 rfl
  have p2 := xR.cell 2 rfl
  have b6 := b5.ext0 FR
  clear k00 k01 k02 k10 k11 k12 hd
  go_wp2_with ((with_reducible show wpList _ _ _ (⟨_, .store 41 _ _, _, _, _, _⟩ :: _) _ _); refine st_storeBox stRat rfl rfl b6 rfl rfl (one3 _ _ _ _ _ _ _) ?_; intro w7 r1 r2)
  have h7 := QC.mono _ _ _ _ le_unbox (QC.mono _ _ _ _ (le_store r2 (by omega) (by omega)) (mkx QC.mono hu5'.out FR))
  exact bodyPost_ret (results_box rfl rfl stRat r1 rfl) rfl ⟨ExtX.box (hE.trans (hE5.trans FR)) r2 (by omega), _, rfl, h7⟩
end Go.Proofs.YtnnpfhoigmegcaaGreat
namespace Go.Proofs.YtnnpfhoigmegcaaGreat
open Go.RowKit Go.Rep Go.Lim Go.Lin Go.Sort Go.Lib Go.Extern
def ltQ (x y : Rat) : Bool := decide (cmpQ x y < 0)
theorem ltQ_iff {x y : Rat} : ltQ x y = true ↔ x < y := by
  unfold ltQ cmpQ
  simp only [decide_eq_true_eq]
  split
  · rename_i h; simp [h]
  · rename_i h
    constructor
    · intro h2; split at h2 <;> omega
    · intro h2; exact absurd h2 h
theorem ltQ_not {x y : Rat} : ltQ x y = false ↔ y <= x := by
  rw [<- Rat.not_lt, <- ltQ_iff]; simp
theorem ltQ_swo : SWO ltQ :=
  ⟨fun x => ltQ_not.2 Rat.le_refl, fun x y z h1 h2 => ltQ_iff.2 (by have := ltQ_iff.1 h1; have := ltQ_iff.1 h2; grind), fun x y z h1 h2 => ltQ_not.2 (Rat.le_trans (ltQ_not.1 h2) (ltQ_not.1 h1))⟩
structure Sorting (X : Nat -> Bool) (base : Nat) (ao : Option Addr) (cap n b : Nat) (d : Array Rat) (w : World) : Prop where
  own : OL QC 3 X base 41 w ao cap d.toList
  size : d.size = n
  var : w.cell? ⟨b, 0, none⟩ = some (.slice ao n cap)
  off : ob ao b = false
  hid : HX X w
  br : BR 68719476736 d.toList
theorem Sorting.ext {X : Nat -> Bool} {base : Nat} {ao : Option Addr} {cap n b : Nat} {d : Array Rat} {w w' : World} (h : Sorting X base ao cap n b d w) (hE : Ext w w') : Sorting X base ao cap n b d w' :=
  ⟨h.own.ext0 QC.elem hE, h.size, hE.cell h.var, h.off, h.hid.ext hE, h.br⟩
noncomputable def tiRats : TypeInfo := (Tryz.prog.info? 26).get (by kernel_rfl)
noncomputable def tiRat : TypeInfo := (Tryz.prog.info? 41).get (by kernel_rfl)
theorem swK (n : Nat) : swapperK n tiRat 25 = if n = 0 then 1 else if n = 1 then 2 else 9 := by
  have a : tiRat.hasPointers = true := by kernel_rfl
  have b : (tiRat.bytes == 8) = false := by kernel_rfl
  unfold swapperK
  by_cases h0 : n = 0
  · simp [h0]
  · by_cases h1 : n = 1
    · simp [h1]
    · simp [h0, h1, a, b]
end Go.Proofs.YtnnpfhoigmegcaaGreat
namespace Go.Proofs.YtnnpfhoigmegcaaGreat
open Go.RowKit Go.Rep Go.Lim Go.Lin
set_option maxRecDepth 100000 in
set_option maxHeartbeats 1600000 in
theorem esum_any (X : Nat -> Bool) (w : World) (u : Value) (l : List Rat) (hX : HX X w) (hu : RV (mk X w) u l) (hn : l.length <= 1000000) (hb1 : ∀ k, k <= l.length -> hq (sm k (fn l)) <= 68719476736) :
    Calls Tryz.prog 188 #[u] w (ROut X w QC (sm l.length (fn l))) := by
  obtain ⟨ao, ca, rfl, hca, hsa⟩ := hu
  have hha := hsa.hd
  obtain ⟨W, hW, hE, b0, b1, hz⟩ := boxes2 w #[.bool false, .slice none 0 0, .slice none 0 0] #[.bool false, .slice none 0 0, .slice none 0 0] 41 41
  have hXW : HX (hidB X w.heap.size 2) W := hX.boxes hz
  have h0 : QC (mk (hidB X w.heap.size 2) W) (.agg #[.bool false, .slice none 0 0, .slice none 0 0]) (sm 0 (fn l)) := QC.zero _
  obtain ⟨n, hln⟩ : ∃ n, l.length = n := ⟨_, rfl⟩
  rw [hln] at hn hb1 hca hha |-
  have hln' := hid hln
  have hb1' := hid hb1
  clear hln hb1
  go_enter Tryz.func188, Tryz.ntmps188
  go_wp2_with fail
  obtain ⟨b, hb⟩ : ∃ b, w.heap.size = b := ⟨_, rfl⟩
  have hle : Hid (∀ wr, Ext w wr -> Le (mk X w) (mk (hidB X b 2) wr)) := hid fun wr h => by rw [<- hb]; exact le_boxes h
  have hbw : w.heap.size <= b := by omega
  rw [hb] at b0 b1 hXW h0 |-
  clear hW
  go_loopw [8] (fun k wr => ∃ (i : Nat) (s : Bool) (a : Option Addr) (n' c' : Nat) (d : Option Addr) (kk e : Nat), k = .int .i64 i /\ i <= n /\ Bx wr b #[.bool false, .slice none 0 0, .slice none 0 0] 41 /\ Bx wr (b + 1) #[.bool s, .slice a n' c', .slice d kk e] 41 /\ QC (mk (hidB X b 2) wr) (.agg #[.bool s, .slice a n' c', .slice d kk e]) (sm i (fn l)) /\ HX (hidB X b 2) wr /\ Ext w wr) (fun k _ => n - (intOf k).toNat)
  case atStart => exact ⟨0, _, _, _, _, _, _, _, rfl, Nat.zero_le _, b0, b1, h0, hXW, hE⟩
  case round =>
    obtain ⟨i, s, a, n', c', d, kk, e, rfl, hi, b0, b1, hq, hXr, hEr⟩ := hrel
    by_cases hlt : i < n
    · have hil : i < l.length := by rw [hln'.out]; exact hlt
      have hsr := hsa.mono QV.mono (hle.out wr hEr)
      have gl : Hid (fn l i = l[i]) := hid (by simp [fn, List.getD_eq_getElem?_getD, hil])
      have hst : Hid (sm i (fn l) + l[i] = sm (i + 1) (fn l)) := hid (by rw [<- gl.out]; rfl)
      have hbo := hid (hb1'.out i hi)
      obtain ⟨x, hx⟩ : ∃ x, l[i] = x := ⟨_, rfl⟩
      rw [hx] at hst
      have hx' := hid hx
      have bx := Bx.new wr #[.bool false, .slice none 0 0, .slice none 0 0] 41
      obtain ⟨D, hD⟩ : ∃ D, sm i (fn l) = D := ⟨_, rfl⟩
      obtain ⟨D2, hD2⟩ : ∃ D2, sm (i + 1) (fn l) = D2 := ⟨_, rfl⟩
      rw [hD] at hq hst hbo
      rw [hD2] at hst
      have hD2' := hid hD2
      clear hx hD hD2
      go_wp2_with (first | (with_reducible refine up_ixn slRat (by omega) (by assumption) ?_) | ((with_reducible show wpList _ _ _ (⟨_, .load 41 _, _, _, _, _⟩ :: _) _ _); refine st_loadElem stRat i hsr hil rfl (by simp) QV.agg ?_; intro u5 hu5; rw [hx'.out] at hu5; obtain ⟨s5, a5, n5, c5, d5, k5, e5, rfl⟩ := hu5.shape) | ((with_reducible show wpList _ _ _ (⟨_, .store _ _ _, _, _, _, _⟩ :: _) _ _); refine st_storeBox stRat rfl rfl bx rfl rfl (one3 _ _ _ _ _ _ _) ?_; intro w5 r1 r2; have hE5 : Ext wr w5 := ExtX.box ((ExtX.refl wr).alloc _) r2 (Nat.le_refl _); have b15 := b1.ext0 hE5; have k00 : w5.cell? ⟨b + 1, 0, none⟩ = some (.bool s) := b15.cell 0 rfl; have k01 : w5.cell? ⟨b + 1, 1, none⟩ = some (.slice a n' c') := b15.cell 1 rfl; have k02 : w5.cell? ⟨b + 1, 2, none⟩ = some (.slice d kk e) := b15.cell 2 rfl; have k10 : w5.cell? ⟨wr.heap.size, 0, none⟩ = some (.bool s5) := r1.cell 0 rfl; have k11 : w5.cell? ⟨wr.heap.size, 1, none⟩ = some (.slice a5 n5 c5) := r1.cell 1 rfl; have k12 : w5.cell? ⟨wr.heap.size, 2, none⟩ = some (.slice d5 k5 e5) := r1.cell 2 rfl; have hXd := hXr.ext hE5; have hx5 : QV (mk (hidB X b 2) w5) (.agg #[.bool s5, .slice a5 n5 c5, .slice d5 k5 e5]) x := mkx QV.mono hu5 hE5; have hq5 : QV (mk (hidB X b 2) w5) (.agg #[.bool s, .slice a n' c', .slice d kk e]) D := (mkx QC.mono hq hE5).qv hbo.out; clear bx r1) | (go_at_call 182; (with_reducible refine (qadd (hidB X b 2) w5 _ _ _ _ hXd hq5 hx5).mono ?_); rintro ee w7 ⟨t7, u7, rfl, hu7⟩; obtain ⟨s7, a7, n7, c7, d7, k7, e7, rfl⟩ := hu7.shape; rw [hst.out] at hu7; have b17 := b15.ext0 t7; clear k00 k01 k02 k10 k11 k12) | ((with_reducible show wpList _ _ _ (⟨_, .store _ _ _, _, _, _, _⟩ :: _) _ _); refine st_storeBox stRat rfl rfl b17 rfl rfl (one3 _ _ _ _ _ _ _) ?_; intro w8 z1 z2))
      have h8 := QC.mono _ _ _ _ (le_store (lo := b) (nb := 2) z2 (by omega) (by omega)) hu7
      have b08 := ((b0.ext0 hE5).ext0 t7).ext z2 (ob_other (by omega))
      have hE8 : Ext w _ := ExtX.box (hEr.trans (hE5.trans t7)) z2 (by omega)
      have hX8 := (hXd.ext t7).ext z2
      rw [<- hD2'.out] at h8
      go_roundw
      case rel => exact ⟨i + 1, _, _, _, _, _, _, _, by go_num, by omega, b08, z1, h8, hX8, hE8⟩
      case measure => simp [intOf]; omega
    · have hin : i = n := by omega
      subst hin
      rw [<- hln'.out] at hq
      have k00 := b1.cell 0 rfl
      have k01 := b1.cell 1 rfl
      have k02 := b1.cell 2 rfl
      go_wp2_with ((with_reducible show wpList _ _ _ (⟨_, .store _ _ _, _, _, _, _⟩ :: _) _ _); refine st_storeBox stRat rfl rfl b0 rfl rfl (one3 _ _ _ _ _ _ _) ?_; intro w7 r1 r2)
      have h7 := QC.mono _ _ _ _ le_unbox (QC.mono _ _ _ _ (le_store r2 (by omega) (by omega)) hq)
      rw [hln'.out] at h7
      exact bodyPost_ret (results_box rfl rfl stRat r1 rfl) rfl ⟨ExtX.box hEr r2 (by omega), _, rfl, h7⟩
end Go.Proofs.YtnnpfhoigmegcaaGreat
namespace Go.Rep
open Go.RowKit Go.Lim
section
variable {P : Program} {ops : Array Oper} {Q : Exit -> Act -> World -> Prop} {a : Act} {w : World}
variable {α : Type} {R : Mem -> Value -> α -> Prop} {sz : Nat} {X : Nat -> Bool} {base : Nat} {e : TypeId} {ao : Option Addr} {cap : Nat} {l : List α}
theorem step_appendl13 {o : Oper} {K : Act -> World -> Prop} {E : Prop} {t by_ : Nat} {z : Value} {s x : Operand} {ax : Option Addr} {cs : Nat}
    (hg : o.guard = none) (hop : o.op = Op.call { callee := Callee.builtin Builtin.append, args := #[s, x], argTypes := #[t, t] }) (T : SliceT P t e sz by_ z) (hzs : z.cells.size = sz) (hR : Elem R sz) (hbase : base <= w.heap.size) (hX : ∀ k, X k = true -> k < w.heap.size) (xs : List α) (n m : Nat) (hn : l.length = n) (hm : xs.length = m)
    (hs : a.eval s = .slice ao n cap) (hx : a.eval x = .slice ax m cs) (h : OL R sz X base e w ao cap l)
    (hxs : Sl R sz (mk (un X ao) w) ax xs) (hroom : (n + m) * by_ <= 140737488355328) (hmax : n + m <= 9223372036854775807)
    (hK : ∀ ao' cap' w', OL R sz X base e w' ao' cap' (l ++ xs) -> ExtX (ob ao) w w' -> (ao' = ao \/ ∃ g, ao' = some ⟨g, 0, none⟩ /\ w.heap.size <= g) -> K (a.put o.dst (.slice ao' (n + m) cap')) w') :
    if Region.wanted o (yielded ops a.tmps) = true then Oper.wp P o a w K Q else E := by
  have hw : Region.wanted o (yielded ops a.tmps) = true := by simp [Region.wanted, hg]
  rw [if_pos hw]
  subst hn hm
  obtain ⟨us, h1, h2, h3⟩ := hxs.at_ hR
  obtain ⟨ao', cap', w', hr, h2, h3, h4⟩ := h.run_append (P := P) T hzs hR hbase hX ax cs us xs h2 h1 h3 hroom hmax o.type
  unfold Oper.wp execOp
  rw [hop]
  simp only [resolve, invoke, builtin, Sem.run_bind, Sem.run_pure, Result.andThen_ok, List.map_toArray, List.map_cons, List.map_nil, hs, hx]
  rw [hr]
  have := hK ao' cap' w' h2 h3 h4
  rw [show (l ++ xs).length = l.length + xs.length from by simp]
  exact this
end
end Go.Rep
namespace Go.Rep
open Go.RowKit Go.Lim
theorem sl_box {α : Type} {R : Mem -> Value -> α -> Prop} {sz : Nat} {Y : Nat -> Bool} {w : World} {g : Nat} {u : Value} {T : TypeId} {y : α} (hb : Bx w g u.cells T) (hY : Y g = false) (hu : R (mk Y w) u y) (hs : u.cells.size = sz) : Sl R sz (mk Y w) (some ⟨g, 0, none⟩) [y] :=
  ⟨fun _ => ⟨g, 0, rfl⟩, fun i hi => by
    have : i = 0 := by simpa using hi
    subst this
    refine ⟨u, hs, fun j hj => ?_, hu⟩
    have hc := hb.cell j (Array.getElem?_eq_getElem hj)
    simp only [adr, Option.getD_some, Nat.zero_mul, Nat.zero_add]
    simp [mk, hY, hc]⟩
end Go.Rep
namespace Go.Lin
open Go.Lim Go.Rep
theorem sumL_hq {B n : Nat} {l : List Rat} (h : BR B l) (hn : l.length <= n) : ∀ k, k <= l.length -> hq (sm k (fn l)) <= 1 + n * (B + 1) := fun k hk => by
  have := sm_hq (n := k) (B := B) (f := fn l) fun i hi => by
    have hi' : i < l.length := by omega
    rw [show fn l i = l[i] by simp [fn, List.getD_eq_getElem?_getD, hi']]
    exact h _ (List.getElem_mem hi')
  have h2 : k * (B + 1) <= n * (B + 1) := Nat.mul_le_mul_right _ (by omega)
  omega
end Go.Lin
namespace Go.Proofs.YtnnpfhoigmegcaaGreat
open Go.RowKit Go.Rep Go.Lim Go.Lin
end Go.Proofs.YtnnpfhoigmegcaaGreat
namespace Go.Lin
open Go.Lim
end Go.Lin
namespace Go
open Go.Rep
structure AS where
  op : Nat
  slot : Nat
  T : TypeId
  z : Array Value
section
variable (P : Program) (md : Region.Mode) (ops : Array Oper) (Q : Exit -> Act -> World -> Prop) (S : World -> Prop) (n fe : Nat) (le : Array Bool) (bs : List AS) (Z : Nat -> Bool) (W0 : World)
end
section
variable {P : Program} {md : Region.Mode} {ops : Array Oper} {Q : Exit -> Act -> World -> Prop} {S : World -> Prop} {n fe : Nat} {le : Array Bool} {bs : List AS} {Z : Nat -> Bool} {W0 : World}
end
end Go
namespace Go.Lin
open Go.Lim
end Go.Lin
namespace Go.Proofs.YtnnpfhoigmegcaaGreat
open Go.RowKit Go.Rep Go.Lim Go.Lin
def linV (lo hi : Bool) (s1 : Bool) (a1 : Option Addr) (n1 c1 : Nat) (d1 : Option Addr) (k1 e1 : Nat) (s2 : Bool) (a2 : Option Addr) (n2 c2 : Nat) (d2 : Option Addr) (k2 e2 : Nat) : Array Value :=
  #[.bool false, .slice none 0 0, .slice none 0 0, .bool false, .slice none 0 0, .slice none 0 0, .bool lo, .bool hi, .bool s1, .slice a1 n1 c1, .slice d1 k1 e1, .bool s2, .slice a2 n2 c2, .slice d2 k2 e2]
def LinL (h : Mem) (v : Value) (p : Rat × Rat) : Prop := ∃ s1 a1 n1 c1 d1 k1 e1 s2 a2 n2 c2 d2 k2 e2, v = .agg (linV false false s1 a1 n1 c1 d1 k1 e1 s2 a2 n2 c2 d2 k2 e2) /\ QC h (.agg #[.bool s1, .slice a1 n1 c1, .slice d1 k1 e1]) p.1 /\ QC h (.agg #[.bool s2, .slice a2 n2 c2, .slice d2 k2 e2]) p.2
theorem LinL.mono : Mono LinL := by
  rintro h h' u p hl ⟨s1, a1, n1, c1, d1, k1, e1, s2, a2, n2, c2, d2, k2, e2, rfl, q1, q2⟩
  exact ⟨_, _, _, _, _, _, _, _, _, _, _, _, _, _, rfl, QC.mono _ _ _ _ hl q1, QC.mono _ _ _ _ hl q2⟩
end Go.Proofs.YtnnpfhoigmegcaaGreat
namespace Go.Lin
end Go.Lin
namespace Go.Proofs.YtnnpfhoigmegcaaGreat
open Go.RowKit Go.Rep Go.Lim Go.Lin
end Go.Proofs.YtnnpfhoigmegcaaGreat
namespace Go.Lin
open Go.Lim Go.Rep
def locE (k t n : Int) : Int := if knownB k t = false \/ n < 1 \/ 64 < n then 1 else if fitsB k t n = false then 10 else 0
def locN (k t n : Int) : Int := if locE k t n = 0 then min ((rkA k t n.toNat : Int) + 1) (n - (rkB k t n.toNat : Int) + 1) else 0
def dsgB (m : List (List Rat)) : Bool := decide (1 <= m.length) && decide (m.length <= 64) && sameB m 1 4
theorem dsg_shp {m : List (List Rat)} (h : dsgB m = true) : Shp m.length (colsL m) m /\ 1 <= m.length /\ m.length <= 64 /\ 1 <= colsL m /\ colsL m <= 4 := by
  unfold dsgB sameB at h
  simp only [Bool.and_eq_true, decide_eq_true_eq] at h
  obtain ⟨⟨h1, h2⟩, h3⟩ := h
  have h0 := h3 0 (by omega)
  refine ⟨⟨rfl, fun r hr => ?_⟩, h1, h2, by omega, by omega⟩
  obtain ⟨i, hi, rfl⟩ := List.getElem_of_mem hr
  exact (h3 i hi).1
end Go.Lin
namespace Go.Proofs.YtnnpfhoigmegcaaGreat
open Go.RowKit Go.Rep Go.Lim Go.Lin
set_option maxRecDepth 100000 in
set_option maxHeartbeats 1600000 in
theorem blocation (w : World) (k t n : Int) (hn1 : -9223372036854775808 <= n) (hn2 : n <= 9223372036854775807) :
    Calls Tryz.prog 31 #[.agg #[.int .i64 k, .int .i64 t], .int .i64 n] w (fun e w' => Ext w w' /\ e = .returned (.tuple #[.int .i64 (locN k t n), .int .i64 (locE k t n)])) := by
  obtain ⟨W, hW, hE, b0, hz⟩ := boxes1 w #[.int .i64 k, .int .i64 t] 53
  obtain ⟨b, hb⟩ : ∃ b, w.heap.size = b := ⟨_, rfl⟩
  rw [hb] at b0 hz
  have hfi := ifits W k t n hn1 hn2
  have k0 : W.cell? ⟨b, 0, none⟩ = some (.int .i64 k) := b0.cell 0 rfl
  have k1 : W.cell? ⟨b, 1, none⟩ = some (.int .i64 t) := b0.cell 1 rfl
  obtain ⟨kb, hkb⟩ : ∃ kb, knownB k t = kb := ⟨_, rfl⟩
  obtain ⟨fb, hfb⟩ : ∃ fb, fitsB k t n = fb := ⟨_, rfl⟩
  rw [hkb, hfb] at hfi
  by_cases hbad : kb = false \/ n < 1 \/ 64 < n
  · have e1 : locE k t n = 1 := by unfold locE; rw [hkb, if_pos hbad]
    have e2 : locN k t n = 0 := by unfold locN; rw [e1, if_neg (by decide)]
    rw [e1, e2]
    clear e1 e2 hkb hfb
    rcases hbad with rfl | h | h
    · go_enter Tryz.func31, Tryz.ntmps31
      go_wp2_with (first | (go_at_call 100; refine hfi.mono ?_; rintro ee w1 ⟨hE1, rfl⟩))
      go_ret2
      exact ⟨hE.trans hE1, rfl⟩
    · have h1 : decide (n < 1) = true := decide_eq_true h
      cases kb
      all_goals
        go_enter Tryz.func31, Tryz.ntmps31
        go_wp2_with (first | (go_at_call 100; refine hfi.mono ?_; rintro ee w1 ⟨hE1, rfl⟩))
        go_ret2
        exact ⟨hE.trans hE1, rfl⟩
    · have h1 : decide (n < 1) = false := decide_eq_false (by omega)
      have h2 : decide (64 < n) = true := decide_eq_true h
      cases kb
      all_goals
        go_enter Tryz.func31, Tryz.ntmps31
        go_wp2_with (first | (go_at_call 100; refine hfi.mono ?_; rintro ee w1 ⟨hE1, rfl⟩))
        go_ret2
        exact ⟨hE.trans hE1, rfl⟩
  · have hkt : kb = true := by cases kb <;> simp_all
    subst hkt
    have h1 : decide (n < 1) = false := decide_eq_false (by omega)
    have h2 : decide (64 < n) = false := decide_eq_false (by omega)
    obtain ⟨m, rfl⟩ := Int.eq_ofNat_of_zero_le (show 0 <= n by omega)
    cases hfc : fb with
    | false =>
      subst hfc
      have e1 : locE k t m = 10 := by unfold locE; rw [hkb, hfb, if_neg hbad, if_pos rfl]
      have e2 : locN k t m = 0 := by unfold locN; rw [e1, if_neg (by decide)]
      rw [e1, e2]
      clear e1 e2 hkb hfb
      go_enter Tryz.func31, Tryz.ntmps31
      go_wp2_with (first | (go_at_call 100; refine hfi.mono ?_; rintro ee w1 ⟨hE1, rfl⟩))
      go_ret2
      exact ⟨hE.trans hE1, rfl⟩
    | true =>
      subst hfc
      have hk := knownB_iff.1 hkb
      have hf := fitsB_iff.1 hfb
      have hrk := rk_ok hk hf
      have e1 : locE k t m = 0 := by unfold locE; rw [hkb, hfb, if_neg hbad, if_neg (by decide)]
      have e2 : locN k t m = min ((rkA k t m : Int) + 1) ((m : Int) - (rkB k t m : Int) + 1) := by unfold locN; rw [e1, if_pos rfl]; rfl
      rw [e1, e2]
      have hra := hid fun w' => iranks w' k t m (by omega) hk hf
      obtain ⟨A, hA⟩ : ∃ A, rkA k t m = A := ⟨_, rfl⟩
      obtain ⟨C, hC⟩ : ∃ C, rkB k t m = C := ⟨_, rfl⟩
      rw [hA, hC] at hra hrk |-
      have w1' : IntKind.i64.wrap ((m : Int) - (C : Int)) = (m : Int) - (C : Int) := IntWalk.i64_in _ (by omega)
      have w2' : IntKind.i64.wrap ((m : Int) - (C : Int) + 1) = (m : Int) - (C : Int) + 1 := IntWalk.i64_in _ (by omega)
      clear e1 e2 hkb hfb hA hC hk hf
      go_enter Tryz.func31, Tryz.ntmps31
      go_wp2_with (first | (go_at_call 100; refine hfi.mono ?_; rintro ee w1 ⟨hE1, rfl⟩; have k2 : w1.cell? ⟨b, 0, none⟩ = some (.int .i64 k) := hE1.cell k0; have k3 : w1.cell? ⟨b, 1, none⟩ = some (.int .i64 t) := hE1.cell k1) | (go_at_call 101; refine (hra.out w1).mono ?_; rintro ee w2 ⟨hE2, rfl⟩))
      go_ret2
      refine ⟨hE.trans (hE1.trans hE2), ?_⟩
      show Ending.returned (.tuple #[.int .i64 (min (A : Int) ((m : Int) - (C : Int)) + 1), .int .i64 0]) = _
      rw [show min (A : Int) ((m : Int) - (C : Int)) + 1 = min ((A : Int) + 1) ((m : Int) - (C : Int) + 1) by omega]
set_option maxRecDepth 100000 in
theorem bdesign (X : Nat -> Bool) (w : World) (u : Value) (m : List (List Rat)) (hu : MV (mk X w) u m) (hl : m.length <= 1099511627776) :
    Calls Tryz.prog 107 #[u] w (fun e w' => w' = w /\ e = .returned (.bool (dsgB m))) := by
  have hs := hid fun (_ : Unit) => esame_any (R := QV) X w u m 1 4 hu hl
  obtain ⟨ao, ca, rfl, hca, hsa⟩ := hu
  have hh : Hid (dsgB m = (decide (1 <= m.length) && decide (m.length <= 64) && sameB m 1 4)) := hid rfl
  obtain ⟨sb, hsb⟩ : ∃ sb, sameB m 1 4 = sb := ⟨_, rfl⟩
  obtain ⟨n, hn⟩ : ∃ n, m.length = n := ⟨_, rfl⟩
  rw [hsb, hn] at hh
  rw [hn] at hs |-
  rw [hsb] at hs
  clear hsb hn hsa hca hl
  by_cases h1 : 1 <= n
  · by_cases h2 : n <= 64
    · have e : Hid (dsgB m = sb) := hid (by rw [hh.out, decide_eq_true h1, decide_eq_true h2]; simp)
      rw [e.out]
      go_enter Tryz.func107, Tryz.ntmps107
      go_wp2_with (first | (go_at_call 172; refine (hs.out ()).mono ?_; rintro ee w1 ⟨rfl, rfl⟩))
      go_ret
      exact ⟨rfl, rfl⟩
    · have e : Hid (dsgB m = false) := hid (by rw [hh.out, decide_eq_false h2]; simp)
      rw [e.out]
      go_enter Tryz.func107, Tryz.ntmps107
      go_wp2_with fail
      go_ret
      exact ⟨rfl, rfl⟩
  · have e : Hid (dsgB m = false) := hid (by rw [hh.out, decide_eq_false h1]; simp)
    rw [e.out]
    go_enter Tryz.func107, Tryz.ntmps107
    go_wp2_with fail
    go_ret
    exact ⟨rfl, rfl⟩
set_option maxRecDepth 100000 in
theorem bfull (X : Nat -> Bool) (w : World) (u : Value) (m : List (List Rat)) (B : Nat) (hX : HX X w) (hu : MV (mk X w) u m) (hd : dsgB m = true) (hB : BM B m) (hB1 : 1 <= B) (hBB : B <= 1000) :
    Calls Tryz.prog 108 #[u] w (BOut w (decide ((redP m (colsL m)).2.length = colsL m))) := by
  obtain ⟨hs, h1, h64, hc1, hc4⟩ := dsg_shp hd
  obtain ⟨hf, _⟩ := formedB_of hs (by omega) hc1 (by omega) (by omega)
  have hr := rank_ok X w u m hX hu hf (rank_tame hs (bm_hb hB hB1) hBB hc4).e
  rw [rankV_red] at hr
  obtain ⟨ao, ca, rfl, hca, hsa⟩ := hu
  obtain ⟨a0, c0, hX0, hc0, hcl0, hq0⟩ := hsa.row 0 (by omega)
  have hcol : m[0].length = colsL m := hs.2 _ (List.getElem_mem _)
  have hh := hsa.hd
  rw [hcol] at hc0
  obtain ⟨r, hr'⟩ : ∃ r, (redP m (colsL m)).2.length = r := ⟨_, rfl⟩
  obtain ⟨c, hc'⟩ : ∃ c, colsL m = c := ⟨_, rfl⟩
  obtain ⟨n, hn⟩ : ∃ n, m.length = n := ⟨_, rfl⟩
  rw [hr'] at hr
  rw [hc'] at hc0
  rw [hr', hc']
  rw [hn] at hh h1 hr |-
  have heq : Hid (((r : Int) == (c : Int)) = decide (r = c)) := hid (by rw [Bool.eq_iff_iff]; simp; omega)
  obtain ⟨bb, hbb⟩ : ∃ bb, decide (r = c) = bb := ⟨_, rfl⟩
  rw [hbb] at heq |-
  have heq' := heq.out
  clear hr' hc' hn hcol hq0 hf hs hbb
  go_enter Tryz.func108, Tryz.ntmps108
  go_wp2_with (first | (go_at_call 189; refine hr.mono ?_; rintro ee w1 ⟨hE1, rfl⟩; have k1 := hc0.out noY w1 hE1 rfl) | (with_reducible refine up_ix1 slRats (by omega) (by assumption) ?_))
  go_ret
  exact ⟨hE1, rfl⟩
end Go.Proofs.YtnnpfhoigmegcaaGreat
namespace Go.Proofs.YtnnpfhoigmegcaaGreat
open Go.RowKit Go.Rep Go.Lim Go.Lin
def octB (b nb : Nat) : Nat -> Bool := fun k => decide (b <= k) && decide (k < b + nb)
def KeepO (b nb : Nat) (W W' : World) : Prop := W.heap.size <= W'.heap.size /\ ∀ k, octB b nb k = true -> W'.heap[k]? = W.heap[k]?
theorem octB_iff {b nb k : Nat} : octB b nb k = true ↔ b <= k /\ k < b + nb := by simp [octB]
theorem KeepO.of {b nb : Nat} {Y : Nat -> Bool} {W W' : World} (hE : ExtX Y W W') (hY : ∀ k, Y k = true -> octB b nb k = false) (hB : b + nb <= W.heap.size) : KeepO b nb W W' := ⟨hE.size, fun k hk => hE.block k (by have := octB_iff.1 hk; omega) (by
  cases h : Y k
  · rfl
  · rw [hY k h] at hk; simp at hk)⟩
section
variable (cb : Nat) (caps : Array Value) (Inv : List (List Rat) -> World -> Prop)
def RInv (b c : Nat) (x : Mat) (ao : Option Addr) (n ca : Nat) (D : List (List Int)) (W : World) : Prop := Inv (D.filterMap (rayO x c)) W /\ Bx W b #[.slice ao n ca] 25 /\ Bx W (b + 1) #[.func (.func cb) #[] caps] 137 /\ b + 2 <= W.heap.size
set_option maxRecDepth 100000 in
set_option maxHeartbeats 3200000 in
theorem raycb (H : Nat -> Bool) (w0 : World) (b c n B : Nat) (x : Mat) (ao : Option Addr) (ca : Nat) (D : List (List Int)) (s : List Int) (W : World)
    (hcf : ∀ (args : Array Value) (W : World), Sem.run Tryz.prog (callFunc cb args) W = .ok (.enter cb args) W)
    (_hb : w0.heap.size = b) (hH : ∀ k, H k = true -> k < b + 8) (_hH8 : ∀ k, octB b 8 k = true -> H k = true)
    (hx : MV (mk H w0) (.slice ao n ca) x) (hs : Shp n c x) (_hn64 : n <= 64) (hc2 : 2 <= c) (hc4 : c <= 4) (hB : BM B x) (hB1 : 1 <= B) (hBB : B <= 1000)
    (hIE : ∀ done W, Inv done W -> ExtX H w0 W) (hInv : ∀ done W W', Inv done W -> ExtX (octB b 8) W W' -> Inv done W')
    (hCB : ∀ done d W vd, Inv done W -> (∃ rest, done ++ [d] ++ rest = raysL x c) -> RV (mk H W) vd d -> d.length = c -> b + 8 <= W.heap.size -> Calls Tryz.prog cb (#[vd] ++ caps) W (fun e W' => e = .returned (.tuple #[]) /\ Inv (done ++ [d]) W' /\ KeepO b 8 W W'))
    (hi : RInv cb caps Inv b c x ao n ca D W) (hss : ∃ rest, D ++ [s] ++ rest = combs n (c - 1) 0) (hsl : Sl (IntIn .i64) 1 W.cell? (some ⟨b + 2 + 3, 0, none⟩) s) (hW : b + 2 + 6 <= W.heap.size) :
    Calls Tryz.prog 204 #[.slice (some ⟨b + 2 + 3, 0, none⟩) s.length (c - 1), .pointer (some ⟨b, 0, none⟩), .pointer (some ⟨b + 1, 0, none⟩)] W
      (fun e W' => e = .returned (.tuple #[]) /\ RInv cb caps Inv b c x ao n ca (D ++ [s]) W' /\ Keep (b + 2) W W') := by
  obtain ⟨hiv, bx, bf, _⟩ := hi
  obtain ⟨rest, hrest⟩ := hss
  have hmem : s ∈ combs n (c - 1) 0 := by rw [<- hrest]; simp
  obtain ⟨m1, m2, _⟩ := combs_mem n (c - 1) 0 s hmem
  have hxl : x.length = n := hs.1
  have hsb : ∀ i ∈ s, 0 <= i /\ i < (x.length : Int) := fun i hi => by have := m2 i hi; omega
  have hXW : HX H W := fun k hk => by have := hH k hk; omega
  have hxW : MV (mk H W) (.slice ao n ca) x := MV.mono _ _ _ _ (mk_mono (hIE _ _ hiv) fun _ h => h) hx
  have hT := ray_tame hs (bm_hb hB hB1) hBB hc4 hsb (by omega)
  have hrs := ray_shp hs hsb
  obtain ⟨hf, hcl⟩ := formedB_of hrs (by omega) (by omega) (by omega) (by omega)
  have hNB := hb_bm hT.2
  have hNr : ∀ r ∈ nullM (rowsL x s) c, r.length = c := fun r hr => nullM_row r hr
  have hfm : (D ++ [s]).filterMap (rayO x c) = D.filterMap (rayO x c) ++ (match rayO x c s with | some d => [d] | none => []) := by
    rw [List.filterMap_append]
    cases h : rayO x c s <;> simp [h]
  have hro : rayO x c s = match nullM (rowsL x s) c with | [d] => some d | _ => none := rfl
  have hrr : raysL x c = (combs n (c - 1) 0).filterMap (rayO x c) := by unfold raysL; rw [if_neg (by omega), hxl]
  have hpre : ∀ d, rayO x c s = some d -> ∃ rest', D.filterMap (rayO x c) ++ [d] ++ rest' = raysL x c := fun d hd => by
    refine ⟨rest.filterMap (rayO x c), ?_⟩
    rw [hrr, <- hrest, List.filterMap_append, hfm, hd]
  have kx : W.cell? ⟨b, 0, none⟩ = some (.slice ao n ca) := bx.cell 0 rfl
  have hrow := erows_any H W (.slice ao n ca) x (some ⟨b + 2 + 3, 0, none⟩) s s.length hXW hxW hsl hsb (by omega)
  unfold RowsOut at hrow
  rw [rowsL_len] at hrow
  have hnull := hid fun w1 ra rc (h1 : HX H w1) (h2 : MV (mk H w1) (.slice ra s.length rc) (rowsL x s)) => null_ok H w1 (.slice ra s.length rc) (rowsL x s) s.length c h1 h2 hf (rowsL_len x s) hcl hT.1
  obtain ⟨N, hN⟩ : ∃ N, nullM (rowsL x s) c = N := ⟨_, rfl⟩
  rw [show nullL (ent (redP (rowsL x s) c).1) (redP (rowsL x s) c).2 c = nullM (rowsL x s) c from rfl, hN] at hnull
  rw [hN] at hNB hNr hro
  have hrl := hid (rowsL_len x s)
  have hfm' := hid hfm
  have hro' := hid hro
  have hpre' := hid hpre
  have hNB' := hid hNB
  have hNr' := hid hNr
  have hW' := hid hW
  have hiv' := hid hiv
  have hbx := hid bx
  have hbf := hid bf
  rw [m1] at hrow hrl hnull |-
  clear hfm hro hpre hNB hNr hT hrs hf hcl hrest hmem m1 m2 hsb hrr hN hiv bx bf hxW hx
  have hnone := hid fun (h : N.length ≠ 1) => (by
    rw [hro'.out]
    split
    · exact absurd rfl h
    · rfl : rayO x c s = none)
  have hsome := hid fun d (h : N = [d]) => (by rw [hro'.out, h] : rayO x c s = some d)
  by_cases hk : N.length = 1
  · obtain ⟨d, rfl⟩ := List.length_eq_one_iff.1 hk
    have hsd := hsome.out d rfl
    obtain ⟨rest', hrest'⟩ := hpre'.out d hsd
    have hdl : d.length = c := hNr'.out d (by simp)
    have hdB : BR 68719476736 d := fun q hq => by
      have := hNB'.out d (by simp) q hq
      have h2 := Nat.mul_le_mul_left 42875 hBB
      omega
    have hdl' := hid hdl
    have hdB' := hid hdB
    clear hnone hsome hro' hNr' hNB' hk hpre' hdl hdB
    go_enter Tryz.func204, Tryz.ntmps204
    go_upto_region 2 with (first
      | (go_at_call 92; refine hrow.mono ?_; rintro ee w1 ⟨t1, ra, rc, rfl, hO1⟩; have hM1 : MV (mk H w1) (.slice ra (c - 1) rc) (rowsL x s) := ⟨ra, rc, by rw [hrl.out], by have := hO1.lenCap; rw [hrl.out] at this; rw [hrl.out]; exact this, hO1.sl RV.elem⟩)
      | (go_at_call 205; refine (hnull.out w1 ra rc (hXW.ext t1) hM1).mono ?_; rintro ee w2 ⟨t2, u2, rfl, na, nc, rfl, hnc, hns⟩))
    have tW2 := t1.trans t2
    have hX2 : HX H w2 := hXW.ext tW2
    have hEd : Ext w2 w2.drew := (ExtX.refl w2).drew
    obtain ⟨a1, c1, hX1, hc1, hcl1, hq1⟩ := hns.row 0 (by simp)
    have hh : Hd na 1 := hns.hd
    have hc1' : Hid (∀ Y W', ExtX Y w2 W' -> Y (adr na 0).block = false -> W'.cell? (adr na 0) = some (.slice a1 c c1)) := hid fun Y W' h1 h2 => by have := hc1.out Y W' h1 h2; simpa [hdl'.out] using this
    have hq1' : Sl QC 3 (mk H w2) a1 d := hq1
    have hcc : d.length <= c1 := hcl1
    have hvd : RV (mk H w2.drew) (.slice a1 c c1) d := ⟨a1, c1, by rw [hdl'.out], hcc, (hq1'.mono QC.mono (mk_ext hEd)).qv hdB'.out⟩
    have i0 : ∀ W, (Instr.indexAt 25 (.slice na 1 nc) (.int .i64 0)).run Tryz.prog W = .ok (.pointer (some (adr na 0))) W := run_ix1 slRats na 1 nc .i64 0 hh (by decide) rfl
    have hwS : w2.drew.cell? ⟨b + 1, 0, none⟩ = some (.func (.func cb) #[] caps) /\ w2.drew.cell? (adr na 0) = some (.slice a1 c c1) := ⟨(hbf.out.ext0 (tW2.trans hEd)).cell 0 rfl, hc1'.out noY _ hEd rfl⟩
    have hiv2 := hInv _ _ _ hiv'.out (ExtX.of (tW2.trans hEd))
    have hcal := hCB _ d w2.drew (.slice a1 c c1) hiv2 ⟨rest', hrest'⟩ hvd hdl'.out (by have := (tW2.trans hEd).size; have := hW'.out; omega)
    have hfin := hid fun w3 (h1 : Inv (D.filterMap (rayO x c) ++ [d]) w3) (h2 : KeepO b 8 w2.drew w3) => (by
      have hks : ∀ k, octB b 8 k = true -> w3.heap[k]? = W.heap[k]? := fun k hk => by
        rw [h2.2 k hk]
        exact (tW2.trans hEd).block k (by have := octB_iff.1 hk; have := hW'.out; omega) rfl
      have hsz : W.heap.size <= w3.heap.size := Nat.le_trans (tW2.trans hEd).size h2.1
      refine ⟨rfl, ⟨?_, ?_, ?_, by have := hW'.out; omega⟩, hsz, fun k hk => hks k ?_⟩
      · rw [hfm'.out, hsd]; exact h1
      · show w3.heap[b]? = _
        rw [hks b (octB_iff.2 (by omega))]; exact hbx.out
      · show w3.heap[b + 1]? = _
        rw [hks (b + 1) (octB_iff.2 (by omega))]; exact hbf.out
      · have : b + 2 <= k /\ k < b + 2 + 6 := by simpa [ownB] using hk
        exact octB_iff.2 (by omega) : Ending.returned (.tuple #[]) = .returned (.tuple #[]) /\ RInv cb caps Inv b c x ao n ca (D ++ [s]) w3 /\ Keep (b + 2) W w3)
    clear hrow hnull hO1 hM1 hns hc1 hc1' hq1 hq1' hcl1 hnc hvd hiv2 t1 t2 tW2 hX2 hcc hrest' hiv' hX1
    (try simp only [Act.put])
    refine wp_region_K 4 (fun w' => w'.cell? ⟨b + 1, 0, none⟩ = some (.func (.func cb) #[] caps) /\ w'.cell? (adr na 0) = some (.slice a1 c c1)) (by kernel_rfl) (by kernel_rfl) hwS (fun hHeld hOnce => ?_)
    refine kt 0 hOnce ?_
    refine kt 1 hOnce ?_
    refine kt 2 hOnce ?_
    refine kt 3 hOnce ?_
    refine kl 4 (fun K hK => ?_)
    go_simp
    refine hcal.mono ?_
    rintro ee w3 ⟨rfl, hiv3, hkp⟩
    refine hK.out _ _ ?_
    clear hK K
    go_wp2_with fail
    go_end0
    exact ⟨rfl, (hfin.out w3 hiv3 hkp).2⟩
  · have hk1 : ((N.length : Int) == 1) = false := beqF (by omega)
    have hsd := hnone.out hk
    obtain ⟨m, hm⟩ : ∃ m, N.length = m := ⟨_, rfl⟩
    rw [hm] at hk1
    clear hnone hsome hk
    go_enter Tryz.func204, Tryz.ntmps204
    go_wp2_with (first
      | (go_at_call 92; refine hrow.mono ?_; rintro ee w1 ⟨t1, ra, rc, rfl, hO1⟩; have hM1 : MV (mk H w1) (.slice ra (c - 1) rc) (rowsL x s) := ⟨ra, rc, by rw [hrl.out], by have := hO1.lenCap; rw [hrl.out] at this; rw [hrl.out]; exact this, hO1.sl RV.elem⟩)
      | (go_at_call 205; refine (hnull.out w1 ra rc (hXW.ext t1) hM1).mono ?_; rintro ee w2 ⟨t2, u2, rfl, na, nc, rfl, hnc, hns⟩; rw [hm]))
    go_end0
    have tW2 := t1.trans t2
    refine ⟨rfl, ⟨?_, hbx.out.ext0 tW2, hbf.out.ext0 tW2, by have := tW2.size; have := hW'.out; omega⟩, tW2.size, fun k hk => tW2.block k (by have : b + 2 <= k /\ k < b + 2 + 6 := (by simpa [ownB] using hk); have := hW'.out; omega) rfl⟩
    rw [hfm'.out, hsd, List.append_nil]
    exact hInv _ _ _ hiv'.out (ExtX.of tW2)
theorem RInv.own {b c n ca : Nat} {x : Mat} {ao : Option Addr} {D : List (List Int)} {W W' : World} (hInv : ∀ done W W', Inv done W -> ExtX (octB b 8) W W' -> Inv done W') (h : RInv cb caps Inv b c x ao n ca D W) (hE : ExtX (ownB (b + 2)) W W') : RInv cb caps Inv b c x ao n ca D W' := by
  obtain ⟨h1, h2, h3, h4⟩ := h
  have ho : ∀ k, k < b + 2 -> ownB (b + 2) k = false := fun k hk => by
    cases h : ownB (b + 2) k
    · rfl
    · have : b + 2 <= k /\ k < b + 2 + 6 := by simpa [ownB] using h
      omega
  exact ⟨hInv _ _ _ h1 (hE.weaken fun k _ hk => by
    cases h : ownB (b + 2) k
    · rfl
    · have : b + 2 <= k /\ k < b + 2 + 6 := by simpa [ownB] using h
      rw [octB_iff.2 (by omega)] at hk; exact absurd hk (by decide)), h2.ext hE (ho _ (by omega)), h3.ext hE (ho _ (by omega)), Nat.le_trans h4 hE.size⟩
set_option maxRecDepth 100000 in
set_option maxHeartbeats 3200000 in
theorem brays (H : Nat -> Bool) (w : World) (u : Value) (x : Mat) (n c B nb : Nat) (hnb : nb = if c = 1 then 2 else 8)
    (hcf : ∀ (args : Array Value) (W : World), Sem.run Tryz.prog (callFunc cb args) W = .ok (.enter cb args) W)
    (hH : ∀ k, H k = true -> k < w.heap.size + nb) (hH8 : ∀ k, octB w.heap.size nb k = true -> H k = true)
    (hx : MV (mk H w) u x) (hs : Shp n c x) (hn1 : 1 <= n) (hn64 : n <= 64) (hc1 : 1 <= c) (hc4 : c <= 4) (hB : BM B x) (hB1 : 1 <= B) (hBB : B <= 1000)
    (hIE : ∀ done W, Inv done W -> ExtX H w W) (hInv : ∀ done W W', Inv done W -> ExtX (octB w.heap.size nb) W W' -> Inv done W')
    (hCB : ∀ done d W vd, Inv done W -> (∃ rest, done ++ [d] ++ rest = raysL x c) -> RV (mk H W) vd d -> d.length = c -> w.heap.size + nb <= W.heap.size -> Calls Tryz.prog cb (#[vd] ++ caps) W (fun e W' => e = .returned (.tuple #[]) /\ Inv (done ++ [d]) W' /\ KeepO w.heap.size nb W W'))
    (h0 : Inv [] w) :
    Calls Tryz.prog 123 #[u, .func (.func cb) #[] caps] w (fun e W' => e = .returned (.tuple #[]) /\ Inv (raysL x c) W') := by
  have hmf : ∀ (fn : Fn) (first cap : Array Value) (w : World), (Instr.makeFunc fn first cap).run Tryz.prog w = .ok (.func fn first cap) w := fun _ _ _ _ => rfl
  obtain ⟨ao, ca, rfl, hca, hsa⟩ := hx
  have hxl : x.length = n := hs.1
  obtain ⟨W, hW, hE, b0, b1, hz⟩ := boxes2 w #[.slice ao x.length ca] #[.func (.func cb) #[] caps] 25 137
  have hsaW := hsa.mono RV.mono (mk_ext hE)
  obtain ⟨a0, c0, hX0, hc0, hcl0, hq0⟩ := hsaW.row 0 (by omega)
  have hrl : x[0].length = c := hs.2 _ (List.getElem_mem _)
  have hhu := hsa.hd
  rw [hrl] at hc0
  have k0 := hc0.out noY W (ExtX.refl _) rfl
  have hivW := hInv _ _ _ h0 (ExtX.of hE)
  have hxv : MV (mk H w) (.slice ao n ca) x := ⟨ao, ca, by rw [hxl], hca, hsa⟩
  rw [hxl] at b0 hhu |-
  obtain ⟨b, hb⟩ : ∃ b, w.heap.size = b := ⟨_, rfl⟩
  have hb' := hid hb
  rw [hb] at b0 b1 hz hH hH8 hInv hCB
  rw [hxl] at hW
  have kx : W.cell? ⟨b, 0, none⟩ = some (.slice ao n ca) := b0.cell 0 rfl
  have hbW : b + 2 <= W.heap.size := by omega
  clear hc0 hq0 hsa hsaW hrl hcl0 hX0
  by_cases hc : c = 1
  · subst hc
    rw [if_pos rfl] at hnb
    subst hnb
    have hXW : HX H W := fun k hk => by have := hH k hk; omega
    have hEd : Ext W W.drew := (ExtX.refl W).drew
    have hXd := hXW.ext hEd
    have hr1 : raysL x 1 = [[1]] := by simp [raysL]
    have hwS : W.drew.cell? ⟨b + 1, 0, none⟩ = some (.func (.func cb) #[] caps) := hEd.cell (b1.cell 0 rfl)
    go_enter Tryz.func123, Tryz.ntmps123
    go_upto_region 3 with (with_reducible refine up_ix1 slRats (by omega) (by assumption) ?_)
    (try simp only [Act.put])
    refine wp_region_K 3 (fun w' => w'.cell? ⟨b + 1, 0, none⟩ = some (.func (.func cb) #[] caps)) (by kernel_rfl) (by kernel_rfl) hwS (fun hHeld hOnce => ?_)
    refine kt 0 hOnce ?_
    refine ks 1 (fun K hK => ?_)
    go_simp
    ((with_reducible refine (qfrom H W.drew 1 hXd (by decide) (by decide)).mono ?_); rintro ee wa ⟨ga, ua, rfl, hua⟩; obtain ⟨s4, a4, n4, c4, d4, k4, e4, rfl⟩ := hua.shape)
    refine kcn hK (ga.cell hHeld) (fun hHeld => ?_)
    clear hK K
    have hL := (lit_rat1 H wa s4 a4 n4 c4 d4 k4 e4 _ 41 (hXd.ext ga) hua).sl QC.elem
    obtain ⟨wb, hwb, gb, bq, hzb⟩ := boxes1 wa #[.bool s4, .slice a4 n4 c4, .slice d4 k4 e4] 41
    rw [hwb] at hL
    have hvd : RV (mk H wb) (.slice (some ⟨wa.heap.size, 0, none⟩) 1 1) [1] := ⟨_, 1, rfl, Nat.le_refl _, hL.qv fun q hq => by
      have : q = (((1 : Int)) : Rat) := by simpa using hq
      rw [this]; decide +kernel⟩
    have hEb : Ext W wb := hEd.trans (ga.trans gb)
    have hcal := hCB [] [1] wb (.slice (some ⟨wa.heap.size, 0, none⟩) 1 1) (hInv _ _ _ hivW (ExtX.of hEb)) ⟨[], by rw [hr1]; rfl⟩ hvd rfl (by have := hEb.size; omega)
    clear hL hvd bq hzb
    refine ks 2 (fun K hK => ?_)
    go_simp
    skip
    refine kcn hK (gb.cell hHeld) (fun hHeld => ?_)
    clear hK K
    refine kl 3 (fun K hK => ?_)
    go_simp
    refine hcal.mono ?_
    rintro ee w3 ⟨rfl, hiv3, hkp⟩
    refine hK.out _ _ ?_
    clear hK K
    go_wp2_with fail
    refine bodyPost_ret (results_none rfl _ _ _) rfl ?_
    exact ⟨rfl, by rw [hr1]; exact hiv3⟩
  · rw [if_neg hc] at hnb
    subst hnb
    have hcc1 : ((c : Int) == 1) = false := beqF (by omega)
    have ewc : IntKind.i64.wrap ((c : Int) - 1) = ((c - 1 : Nat) : Int) := by rw [IntWalk.i64_in _ (by omega)]; omega
    have hr0 : RInv cb caps Inv b c x ao n ca [] W := ⟨hivW, b0, b1, hbW⟩
    have hsub := subsets_any 204 n (c - 1) #[.pointer (some ⟨b, 0, none⟩), .pointer (some ⟨b + 1, 0, none⟩)] (RInv cb caps Inv b c x ao n ca) W (fun _ _ => rfl) hn64 (by omega)
      (fun done W1 W2 hi hE => hi.own cb caps Inv hInv (by rw [hz] at hE; exact hE))
      (fun done s W1 hi hss hsl h9 => by
        rw [hz] at hsl h9 |-
        exact raycb cb caps Inv H w b c n B x ao ca done s W1 hcf hb'.out hH hH8 hxv hs hn64 (by omega) hc4 hB hB1 hBB hIE hInv hCB hi hss hsl h9) hr0
    clear hr0 hivW hCB hInv hIE hH hH8 hxv b0 b1
    go_enter Tryz.func123, Tryz.ntmps123
    go_wp2_with (first | (with_reducible refine up_ix1 slRats (by omega) (by assumption) ?_))
    refine hsub.mono ?_
    rintro ee w3 ⟨rfl, hr, _⟩
    have hrr : raysL x c = (combs n (c - 1) 0).filterMap (rayO x c) := by unfold raysL; rw [if_neg hc, hxl]
    rw [<- hrr] at hr
    clear hsub hrr
    go_wp2_with fail
    go_end0
    exact ⟨rfl, hr⟩
end
end Go.Proofs.YtnnpfhoigmegcaaGreat
namespace Go.Lin
open Go.Lim Go.Rep
theorem sgn_zero {q : Rat} : q.num.sign = 0 ↔ q = 0 := by
  rw [Int.sign_eq_zero_iff_zero]; exact Rat.num_eq_zero
def flatT (x : Mat) (c : Nat) (d : List Rat) (i : Nat) : Nat := flatN (x.take i) c d
theorem flatT_more {x : Mat} {c : Nat} {d : List Rat} {i : Nat} (h : i < x.length) : flatT x c d (i + 1) = flatT x c d i + (if dot c (vec d) (vec x[i]) = 0 then 1 else 0) := by
  unfold flatT flatN
  rw [List.take_succ_eq_append_getElem h, List.countP_append, List.countP_singleton]
  by_cases h0 : dot c (vec d) (vec x[i]) = 0 <;> simp [h0]
theorem flatT_all (x : Mat) (c : Nat) (d : List Rat) : flatT x c d x.length = flatN x c d := by unfold flatT; rw [List.take_length]
theorem flatT_le (x : Mat) (c : Nat) (d : List Rat) (i : Nat) : flatT x c d i <= i := by
  have := flat_le (x.take i) c d
  unfold flatT
  simp at this; omega
theorem maxL_snoc (l : List Nat) (k : Nat) : maxL (l ++ [k]) = max (maxL l) k := by unfold maxL; rw [List.foldl_append]; rfl
noncomputable def plE (m : List (List Rat)) : Int := if dsgB m = true then 0 else 6
noncomputable def plN (m : List (List Rat)) : Nat := if dsgB m = true then planeL m (colsL m) else 0
end Go.Lin
namespace Go.Proofs.YtnnpfhoigmegcaaGreat
open Go.RowKit Go.Rep Go.Lim Go.Lin
set_option maxRecDepth 100000 in
set_option maxHeartbeats 1600000 in
theorem planecb (H : Nat -> Bool) (W : World) (vd : Value) (d : List Rat) (x : Mat) (n c B bx bm k : Nat) (ao : Option Addr) (ca : Nat) (hXW : HX H W) (hx : MV (mk H W) (.slice ao n ca) x) (hd : RV (mk H W) vd d) (hdl : d.length = c) (hs : Shp n c x) (hn64 : n <= 64) (hc4 : c <= 4) (hB : BM B x) (hBB : B <= 1000) (hdB : BR 42875000 d)
    (bx9 : Bx W bx #[.slice ao n ca] 25) (bm9 : Bx W bm #[.int .i64 (k : Int)] 3) (_hk : k <= 64) :
    Calls Tryz.prog 124 #[vd, .pointer (some ⟨bx, 0, none⟩), .pointer (some ⟨bm, 0, none⟩)] W (fun e W' => e = .returned (.tuple #[]) /\ ExtX (ob (some ⟨bm, 0, none⟩)) W W' /\ Bx W' bm #[.int .i64 ((max k (flatN x c d) : Nat) : Int)] 3) := by
  obtain ⟨do_, dc, rfl, hdc, hds⟩ := hd
  have hsx : Sl RV 1 (mk H W) ao x := by
    obtain ⟨_, _, he, _, h⟩ := hx
    simp only [Value.slice.injEq] at he
    obtain ⟨rfl, _, rfl⟩ := he
    exact h
  have hxl : x.length = n := hs.1
  have hhx := hsx.hd
  rw [hxl] at hhx
  have hdv := hid (show RV (mk H W) (.slice do_ d.length dc) d from ⟨do_, dc, rfl, hdc, hds⟩)
  have kx : W.cell? ⟨bx, 0, none⟩ = some (.slice ao n ca) := bx9.cell 0 rfl
  have hxl' := hid hxl
  have hs' := hid hs
  have hall := hid (flatT_all x c d)
  rw [hxl] at hall
  obtain ⟨m, hm⟩ : ∃ m, d.length = m := ⟨_, rfl⟩
  rw [hm] at hdv
  have hm' : Hid (m = c) := hid (by rw [<- hm, hdl])
  rw [hm]
  clear hm hxl hs hx hds hdc
  go_enter Tryz.func124, Tryz.ntmps124
  go_wp2_with fail
  go_loopw [4, 9] (fun q cc wr => ∃ i : Nat, cc = .int .i64 i /\ q = .int .i64 (flatT x c d i : Int) /\ i <= n /\ Ext W wr) (fun _ cc _ => n - (intOf cc).toNat)
  case atStart => exact ⟨0, rfl, by simp [flatT, flatN], Nat.zero_le _, ExtX.refl _⟩
  case round =>
    obtain ⟨i, rfl, rfl, hi, hE⟩ := hrel
    by_cases hlt : i < n
    · have hil : i < x.length := by rw [hxl'.out]; exact hlt
      have hfl := flatT_le x c d i
      have hmo := hid (flatT_more (c := c) (d := d) hil)
      obtain ⟨a1, c1, hX1, hc1, hcl1, hq1⟩ := (hsx.mono RV.mono (mk_ext hE)).row i hil
      have hrl : x[i].length = c := hs'.out.2 _ (List.getElem_mem _)
      have hrB := hB _ (List.getElem_mem hil)
      have hbd := dot_bd hrl hc4 hrB hdB (by decide) hBB
      have hrv : RV (mk H wr) (.slice a1 c c1) x[i] := ⟨a1, c1, by rw [hrl], by rw [hrl] at hcl1; rw [hrl]; exact hcl1, hq1⟩
      have hdot := hid (edot_any H wr (.slice a1 c c1) (.slice do_ m dc) x[i] d (hXW.ext hE) hrv (mkx RV.mono hdv.out hE) (by omega) (by rw [hrl, hdl]) (fun q hq => Nat.le_trans (hbd.1 q hq) (by decide)) (fun q hq => Nat.le_trans (hbd.2 q hq) (by decide)))
      have hdq : Hid (hq (dotL x[i] d) <= 68719476736) := hid (Nat.le_trans (hbd.1 _ (Nat.le_refl _)) (by decide))
      rw [dot_row hrl] at hdot hdq
      rw [hrl] at hc1
      have k1 := hc1.out noY wr (ExtX.refl _) rfl
      obtain ⟨D, hD⟩ : ∃ D, dot c (vec d) (vec x[i]) = D := ⟨_, rfl⟩
      rw [hD] at hdot hdq hmo
      obtain ⟨f, hf⟩ : ∃ f, flatT x c d i = f := ⟨_, rfl⟩
      rw [hf] at hfl hmo |-
      have ef : IntKind.i64.wrap ((f : Int) + 1) = (f : Int) + 1 := IntWalk.i64_in _ (by omega)
      clear hc1 hq1 hcl1 hrl hrB hbd hrv hD hf
      by_cases h0 : D = 0
      · have hsg : (D.num.sign == (0 : Int)) = true := by rw [sgn_zero.2 h0]; rfl
        have hmo2 : Hid (flatT x c d (i + 1) = f + 1) := hid (by rw [hmo.out, if_pos h0])
        obtain ⟨sg, hsg'⟩ : ∃ sg, D.num.sign = sg := ⟨_, rfl⟩
        have hsq := hid fun w2 u (h1 : HX H w2) (h2 : QC (mk H w2) u D) => (by have := qsign H w2 u D h1 (h2.qv hdq.out); rw [hsg'] at this; exact this : Calls Tryz.prog 125 #[u] w2 (IntOut w2 sg))
        rw [hsg'] at hsg
        clear hsg' h0
        go_wp2_with (first | (with_reducible refine up_ix1 slRats (by omega) (by assumption) ?_) | (go_at_call 98; refine hdot.out.mono ?_; rintro ee w1 ⟨t1, u1, rfl, hu1⟩) | (go_at_call 125; refine (hsq.out w1 u1 ((hXW.ext hE).ext t1) hu1).mono ?_; rintro ee w2 ⟨t2, rfl⟩))
        go_roundw
        case rel => exact ⟨i + 1, by go_num, by rw [hmo2.out]; go_num, by omega, hE.trans (t1.trans t2)⟩
        case measure => simp [intOf]; omega
      · have hsg : (D.num.sign == (0 : Int)) = false := beqF (fun h => h0 (sgn_zero.1 h))
        have hmo2 : Hid (flatT x c d (i + 1) = f) := hid (by rw [hmo.out, if_neg h0]; rfl)
        obtain ⟨sg, hsg'⟩ : ∃ sg, D.num.sign = sg := ⟨_, rfl⟩
        have hsq := hid fun w2 u (h1 : HX H w2) (h2 : QC (mk H w2) u D) => (by have := qsign H w2 u D h1 (h2.qv hdq.out); rw [hsg'] at this; exact this : Calls Tryz.prog 125 #[u] w2 (IntOut w2 sg))
        rw [hsg'] at hsg
        clear hsg' h0
        go_wp2_with (first | (with_reducible refine up_ix1 slRats (by omega) (by assumption) ?_) | (go_at_call 98; refine hdot.out.mono ?_; rintro ee w1 ⟨t1, u1, rfl, hu1⟩) | (go_at_call 125; refine (hsq.out w1 u1 ((hXW.ext hE).ext t1) hu1).mono ?_; rintro ee w2 ⟨t2, rfl⟩))
        go_roundw
        case rel => exact ⟨i + 1, by go_num, by rw [hmo2.out], by omega, hE.trans (t1.trans t2)⟩
        case measure => simp [intOf]; omega
    · obtain rfl : n = i := by omega
      rw [hall.out]
      have hfl := flat_le x c d
      rw [hxl'.out] at hfl
      obtain ⟨f, hf⟩ : ∃ f, flatN x c d = f := ⟨_, rfl⟩
      rw [hf] at hfl
      (try rw [hf])
      have bmr := bm9.ext0 hE
      have km : wr.cell? ⟨bm, 0, none⟩ = some (.int .i64 (k : Int)) := bmr.cell 0 rfl
      have hf' := hid hf
      clear hf kx
      have fm : wr.frozen? ⟨bm, 0, none⟩ = false := bmr.frozen 0
      obtain ⟨r4, y4⟩ := setCell_block bmr (.int .i64 (max (k : Int) (f : Int))) (i := 0) (by simp)
      go_wp2_with fail
      go_end0
      refine ⟨rfl, (ExtX.of hE).trans y4, ?_⟩
      rw [hf'.out, show ((max k f : Nat) : Int) = max (k : Int) (f : Int) by omega]
      exact r4
set_option maxRecDepth 100000 in
set_option maxHeartbeats 3200000 in
theorem bplane (X : Nat -> Bool) (w : World) (u : Value) (x : List (List Rat)) (B : Nat) (hX : HX X w) (hu : MV (mk X w) u x) (hl : x.length <= 1099511627776) (hB : BM B x) (hB1 : 1 <= B) (hBB : B <= 1000) :
    Calls Tryz.prog 50 #[u] w (fun e w' => Ext w w' /\ e = .returned (.tuple #[.int .i64 (plN x : Int), .int .i64 (plE x)])) := by
  have hmf : ∀ (fn : Fn) (first cap : Array Value) (w : World), (Instr.makeFunc fn first cap).run Tryz.prog w = .ok (.func fn first cap) w := fun _ _ _ _ => rfl
  obtain ⟨ao, ca, rfl, hca, hsa⟩ := hu
  obtain ⟨n, hn⟩ : ∃ n, x.length = n := ⟨_, rfl⟩
  have hn' := hid hn
  rw [hn] at hca hl |-
  obtain ⟨W, hW, hE, b0, hz⟩ := boxes1 w #[.slice ao n ca] 25
  have hsW := hsa.mono RV.mono (mk_ext hE)
  have hXW : HX X W := hX.ext hE
  have huW : MV (mk X W) (.slice ao n ca) x := ⟨ao, ca, by rw [hn], by rw [hn]; exact hca, hsW⟩
  have hdes := bdesign X W (.slice ao n ca) x huW (by rw [hn]; exact hl)
  obtain ⟨b, hb⟩ : ∃ b, w.heap.size = b := ⟨_, rfl⟩
  rw [hb] at b0 hz
  have k0 : W.cell? ⟨b, 0, none⟩ = some (.slice ao n ca) := b0.cell 0 rfl
  cases hd : dsgB x with
  | false =>
    have e1 : plE x = 6 := by unfold plE; rw [hd, if_neg (by decide)]
    have e2 : (plN x : Int) = 0 := by unfold plN; rw [hd, if_neg (by decide)]; rfl
    rw [hd] at hdes
    rw [e1, e2]
    clear hd e1 e2 hsW huW hXW
    go_enter Tryz.func50, Tryz.ntmps50
    go_wp2_with (first | (go_at_call 107; refine hdes.mono ?_; rintro ee w1 ⟨hw1, rfl⟩; obtain rfl := hw1.symm))
    go_ret2
    exact ⟨hE, rfl⟩
  | true =>
    obtain ⟨hs, h1, h64, hc1, hc4⟩ := dsg_shp hd
    rw [hn] at hs h1 h64
    have e1 : plE x = 0 := by unfold plE; rw [hd, if_pos rfl]
    have e2 : plN x = planeL x (colsL x) := by unfold plN; rw [hd, if_pos rfl]
    rw [hd] at hdes
    rw [e1, e2]
    have hfu := hid fun w1 (h : Ext W w1) => bfull X w1 (.slice ao n ca) x B (hXW.ext h) (mkx MV.mono huW h) hd hB hB1 hBB
    have hpl := hid (plane_le x (colsL x))
    obtain ⟨c, hc⟩ : ∃ c, colsL x = c := ⟨_, rfl⟩
    rw [hc] at hs hc1 hc4 hfu hpl |-
    by_cases hr : (redP x c).2.length = c
    · have hpe : planeL x c = maxL ((raysL x c).map (flatN x c)) := by unfold planeL; rw [if_neg (by omega)]
      rw [decide_eq_true hr] at hfu
      rw [hpe]
      have hpe' := hid hpe
      clear hpl hr hd e1 e2 hc hpe
      go_enter Tryz.func50, Tryz.ntmps50
      go_wp2_with (first | (go_at_call 107; refine hdes.mono ?_; rintro ee w1 ⟨hw1, rfl⟩; obtain rfl := hw1.symm) | (go_at_call 108; refine (hfu.out W (ExtX.refl _)).mono ?_; rintro ee w2 ⟨t2, rfl⟩; have k2 := t2.cell k0; obtain ⟨w3, hw3, t3, b3, hz3⟩ := boxes1 w2 #[.int .i64 0] 3; have k3 : (w2.alloc (.cells #[.int .i64 0] 3)).cell? ⟨b, 0, none⟩ = some (.slice ao n ca) := by { rw [hw3]; exact t3.cell k2 }; have hw3' := hid hw3; clear hw3))
      rw [hw3'.out]
      obtain ⟨bm, hbm⟩ : ∃ bm, w2.heap.size = bm := ⟨_, rfl⟩
      rw [hbm] at b3 hz3
      (try rw [hbm])
      obtain ⟨nb, hnb⟩ : ∃ nb, nb = if c = 1 then 2 else 8 := ⟨_, rfl⟩
      have hE3 : Ext W w3 := t2.trans t3
      have hbbm : b < bm := by have := t2.size; omega
      have b03 := b0.ext0 hE3
      have hwX : ∀ k, X k = true -> k < w.heap.size := hX
      have hHm : ∀ k, (X k || ((k == bm) || octB (bm + 1) nb k)) = true ↔ X k = true \/ k = bm \/ (bm + 1 <= k /\ k < bm + 1 + nb) := fun k => by
        simp only [Bool.or_eq_true, beq_iff_eq, octB_iff]
      have hy : ∀ k, ((k == bm) || octB (bm + 1) nb k) = true ↔ k = bm \/ (bm + 1 <= k /\ k < bm + 1 + nb) := fun k => by
        simp only [Bool.or_eq_true, beq_iff_eq, octB_iff]
      have hHX : Le (mk X w2) (mk (fun k => X k || ((k == bm) || octB (bm + 1) nb k)) w3) := mk_over t3 (fun k _ hk => by simp [noY] at hk) fun k hk hz => by
        rcases (hHm k).1 hz with h | h | h
        · exact h
        · omega
        · omega
      have hx3 : MV (mk (fun k => X k || ((k == bm) || octB (bm + 1) nb k)) w3) (.slice ao n ca) x := MV.mono _ _ _ _ hHX (mkx MV.mono huW t2)
      have hnb2 : 2 <= nb := by rw [hnb]; split <;> decide
      have hray := brays 124 #[.pointer (some ⟨b, 0, none⟩), .pointer (some ⟨bm, 0, none⟩)]
        (fun done W' => ExtX (fun k => (k == bm) || octB (bm + 1) nb k) w3 W' /\ Bx W' b #[.slice ao n ca] 25 /\ Bx W' bm #[.int .i64 ((maxL (done.map (flatN x c)) : Nat) : Int)] 3 /\ (∀ d ∈ done, True))
        (fun k => X k || ((k == bm) || octB (bm + 1) nb k)) w3 (.slice ao n ca) x n c B nb hnb (fun _ _ => rfl)
        (fun k hk => by
          rcases (hHm k).1 hk with h | h | h
          · have := hwX k h; have := hE.size; have := hE3.size; omega
          · omega
          · omega)
        (fun k hk => by rw [hz3] at hk; exact (hHm k).2 (Or.inr (Or.inr (octB_iff.1 hk)))) hx3 hs h1 h64 hc1 hc4 hB hB1 hBB
        (fun done W' hi => hi.1.weaken fun k _ hk => by
          cases h : ((k == bm) || octB (bm + 1) nb k)
          · rfl
          · rw [(hHm k).2 (Or.inr ((hy k).1 h))] at hk; exact absurd hk (by decide))
        (fun done W' W'' hi hE9 => by
          rw [hz3] at hE9
          have hob : ∀ k, k <= bm -> octB (bm + 1) nb k = false := fun k hk => by
            cases h : octB (bm + 1) nb k
            · rfl
            · have := octB_iff.1 h; omega
          exact ⟨hi.1.trans (hE9.weaken fun k _ hk => by
            cases h : octB (bm + 1) nb k
            · rfl
            · rw [(hy k).2 (Or.inr (octB_iff.1 h))] at hk; exact absurd hk (by decide)), hi.2.1.ext hE9 (hob _ (by omega)), hi.2.2.1.ext hE9 (hob _ (Nat.le_refl _)), hi.2.2.2⟩)
        (fun done d W' vd hi hpre hvd hdl hsz => by
          obtain ⟨rest, hrest⟩ := hpre
          have hmem : ∀ q ∈ done ++ [d], q ∈ raysL x c := fun q hq => by rw [<- hrest]; exact List.mem_append_left _ hq
          have hdm := rays_mem hs hn'.out hc1 hc4 (bm_hb hB hB1) hBB (hmem d (by simp))
          have hdB : BR 42875000 d := fun q hq => by
            have := hdm.2 q hq
            have h2 := Nat.mul_le_mul_left 42875 hBB
            omega
          have hXW' : HX (fun k => X k || ((k == bm) || octB (bm + 1) nb k)) W' := fun k hk => by
            rcases (hHm k).1 hk with h | h | h
            · have := hwX k h; have := hE.size; have := hE3.size; omega
            · omega
            · omega
          have hxW' : MV (mk (fun k => X k || ((k == bm) || octB (bm + 1) nb k)) W') (.slice ao n ca) x := MV.mono _ _ _ _ (mk_mono hi.1 fun k hk => (hHm k).2 (Or.inr ((hy k).1 hk))) hx3
          have hkm : maxL (done.map (flatN x c)) <= 64 := maxL_le fun q hq => by
            obtain ⟨r, _, rfl⟩ := List.mem_map.1 hq
            have := flat_le x c r
            rw [hn'.out] at this
            omega
          refine (planecb _ W' vd d x n c B b bm _ ao ca hXW' hxW' hvd hdl hs h64 hc4 hB hBB hdB hi.2.1 hi.2.2.1 hkm).mono ?_
          rintro e W'' ⟨rfl, hE9, bm9⟩
          have hobm : ∀ k, ob (some ⟨bm, 0, none⟩) k = true -> k = bm := fun k hk => by
            have : bm = k := by simpa [ob] using hk
            exact this.symm
          refine ⟨rfl, ⟨hi.1.trans (hE9.weaken fun k _ hk => ?_), hi.2.1.ext hE9 (ob_other (by omega)), ?_, fun _ _ => trivial⟩, ?_⟩
          · cases h : ob (some ⟨bm, 0, none⟩) k
            · rfl
            · rw [(hy k).2 (Or.inl (hobm k h))] at hk; exact absurd hk (by decide)
          · rw [List.map_append, List.map_singleton, maxL_snoc]; exact bm9
          · rw [hz3]
            exact KeepO.of hE9 (fun k hk => by
              rw [hobm k hk]
              cases h : octB (bm + 1) nb bm
              · rfl
              · have := octB_iff.1 h; omega) (by rw [hz3] at hsz; exact hsz))
        ⟨ExtX.refl _, b03, b3, fun _ _ => trivial⟩
      refine hray.mono ?_
      rintro ee w4 ⟨rfl, hE4, bx4, bm4, _⟩
      have km : w4.cell? ⟨bm, 0, none⟩ = some (.int .i64 ((maxL ((raysL x c).map (flatN x c)) : Nat) : Int)) := bm4.cell 0 rfl
      obtain ⟨R, hR⟩ : ∃ R, maxL ((raysL x c).map (flatN x c)) = R := ⟨_, rfl⟩
      rw [hR] at km
      have hR' := hid hR
      clear hR
      have hEw : Ext w w4 := (hE.trans hE3).then_ hE4 fun k hk _ => by
        cases h : ((k == bm) || octB (bm + 1) nb k)
        · rfl
        · have := (hy k).1 h; have := hE.size; omega
      clear hray bm4 bx4
      go_wp2_with fail
      go_ret2
      refine ⟨hEw, ?_⟩
      rw [hR'.out]
      rfl
    · have hlt : (redP x c).2.length < c := by have := piv_le_cols hs; omega
      have hpe : planeL x c = n := by unfold planeL; rw [if_pos hlt, hn]
      rw [decide_eq_false hr] at hfu
      rw [hpe]
      clear hpl hr hd e1 e2 hc hpe
      go_enter Tryz.func50, Tryz.ntmps50
      go_wp2_with (first | (go_at_call 107; refine hdes.mono ?_; rintro ee w1 ⟨hw1, rfl⟩; obtain rfl := hw1.symm) | (go_at_call 108; refine (hfu.out W (ExtX.refl _)).mono ?_; rintro ee w2 ⟨t2, rfl⟩; have k2 := t2.cell k0))
      go_ret2
      exact ⟨hE.trans t2, rfl⟩
end Go.Proofs.YtnnpfhoigmegcaaGreat
namespace Go.Lin
open Go.Lim
def dscL (l : List Rat) : List Rat := (srt l).reverse
theorem dscL_len (l : List Rat) : (dscL l).length = l.length := by unfold dscL; rw [List.length_reverse, srt_len]
theorem dscL_mem {l : List Rat} {x : Rat} : x ∈ dscL l ↔ x ∈ l := by unfold dscL; rw [List.mem_reverse]; exact (srt_perm l).mem_iff
theorem dsc_uniq {s l : List Rat} (hp : s.Perm l) (hs : s.Pairwise fun a b => b <= a) : s = dscL l := by
  have h := srt_uniq (s := s.reverse) (l := l) ((List.reverse_perm s).trans hp) (List.pairwise_reverse.2 hs)
  unfold dscL
  rw [<- h, List.reverse_reverse]
theorem dsc_sum (l : List Rat) : sumL (dscL l) = sumL l := sumL_perm ((List.reverse_perm _).trans (srt_perm l))
theorem dsc_top (l : List Rat) (m : Nat) : sumL ((dscL l).take m) = topS l m := by
  unfold topS dscL
  rw [List.take_reverse, srt_len]
  exact sumL_perm (List.reverse_perm _)
end Go.Lin
namespace Go.Proofs.YtnnpfhoigmegcaaGreat
open Go.RowKit Go.Rep Go.Lim Go.Lin Go.Sort Go.Lib Go.Extern
def gtQ (x y : Rat) : Bool := ltQ y x
theorem gtQ_not {x y : Rat} : gtQ x y = false ↔ x <= y := ltQ_not
theorem gtQ_swo : SWO gtQ :=
  ⟨fun x => ltQ_swo.irrefl x, fun x y z h1 h2 => ltQ_iff.2 (by have := ltQ_iff.1 h1; have := ltQ_iff.1 h2; grind), fun x y z h1 h2 => ltQ_not.2 (Rat.le_trans (ltQ_not.1 h1) (ltQ_not.1 h2))⟩
theorem dsc_ins (d : Array Rat) : (Go.Sort.insertionSort gtQ d 0 d.size).toList = dscL d.toList := by
  obtain ⟨⟨h1, _, h2⟩, h3⟩ := Go.Sort.insertionSort_holds gtQ_swo d 0 d.size (Nat.zero_le _) (Nat.le_refl _)
  obtain ⟨D, hD⟩ : ∃ D, Go.Sort.insertionSort gtQ d 0 d.size = D := ⟨_, rfl⟩
  rw [hD] at h1 h2 h3 |-
  refine dsc_uniq ?_ (List.pairwise_iff_getElem.2 fun i j hi hj hij => ?_)
  · rw [<- h1] at h2
    have e : D.size = d.size := h1
    rw [show D.extract 0 D.size = D by simp, show d.extract 0 D.size = d by rw [e]; simp] at h2
    exact h2
  · have hi' : i < D.size := by simpa using hi
    have hj' : j < D.size := by simpa using hj
    have := gtQ_not.1 (h3 i j (Nat.zero_le _) hij (by omega))
    simpa [getElem!_pos, hi', hj'] using this
set_option maxRecDepth 100000 in
set_option maxHeartbeats 800000 in
theorem dsc_less {X : Nat -> Bool} {base : Nat} {ao : Option Addr} {cap n b : Nat} {d : Array Rat} {w : World} (h : Sorting X base ao cap n b d w) (i j : Nat) (hi : i < n) (hj : j < n) :
    Calls Tryz.prog 187 #[.int .i64 i, .int .i64 j, .pointer (some ⟨b, 0, none⟩)] w (BOut w (gtQ d[i]! d[j]!)) := by
  have hl : d.toList.length = n := by simpa using h.size
  have hi' : i < d.toList.length := by omega
  have hj' : j < d.toList.length := by omega
  obtain ⟨g1, o1, s1, a1, n1, c1, d1, k1, e1, hg1, hy1, hc1, hq1⟩ := h.own.rat QC.shaped i hi'
  obtain ⟨g2, o2, s2, a2, n2, c2, d2, k2, e2, hg2, hy2, hc2, hq2⟩ := h.own.rat QC.shaped j hj'
  have e1' : d.toList[i] = d[i]! := by simp [getElem!_pos, show i < d.size by rw [h.size]; exact hi]
  have e2' : d.toList[j] = d[j]! := by simp [getElem!_pos, show j < d.size by rw [h.size]; exact hj]
  have b1 := h.br _ (List.getElem_mem hi')
  have b2 := h.br _ (List.getElem_mem hj')
  rw [e1'] at hq1 b1
  rw [e2'] at hq2 b2
  have hhd := h.own.hd
  rw [hl] at hhd
  have hXu := h.own.unX h.hid
  have hv := h.var
  obtain ⟨x, hx⟩ : ∃ x, d[i]! = x := ⟨_, rfl⟩
  obtain ⟨y, hy⟩ : ∃ y, d[j]! = y := ⟨_, rfl⟩
  rw [hx] at hq1 b1 |-
  rw [hy] at hq2 b2 |-
  have hEd : Ext w w.drew := (ExtX.refl w).drew
  have hS : Hid (∀ w', Ext w w' -> w'.cell? ⟨b, 0, none⟩ = some (.slice ao n cap) /\ w'.cell? ⟨g1, o1, none⟩ = some (.bool s1) /\ w'.cell? ⟨g1, o1 + 1, none⟩ = some (.slice a1 n1 c1) /\ w'.cell? ⟨g1, o1 + 2, none⟩ = some (.slice d1 k1 e1) /\ w'.cell? ⟨g2, o2, none⟩ = some (.bool s2) /\ w'.cell? ⟨g2, o2 + 1, none⟩ = some (.slice a2 n2 c2) /\ w'.cell? ⟨g2, o2 + 2, none⟩ = some (.slice d2 k2 e2)) :=
    Go.Rep.hid fun w' h => ⟨h.cell hv, (hc1.out _ _ h rfl).1, (hc1.out _ _ h rfl).2.1, (hc1.out _ _ h rfl).2.2, (hc2.out _ _ h rfl).1, (hc2.out _ _ h rfl).2.1, (hc2.out _ _ h rfl).2.2⟩
  have hcmp := Go.Rep.hid (eless (un X ao) w.drew _ _ y x (HX.ext (w := w) hXu hEd) ((mkx QC.mono hq2 hEd).qv b2) ((mkx QC.mono hq1 hEd).qv b1))
  have i1 : ∀ W, (Instr.indexAt 26 (.slice ao n cap) (.int .i64 (i : Int))).run Tryz.prog W = .ok (.pointer (some ⟨g1, o1, none⟩)) W := by rw [<- hg1]; exact run_indexAt_adr slRat ao n cap .i64 i hhd hi
  have i2 : ∀ W, (Instr.indexAt 26 (.slice ao n cap) (.int .i64 (j : Int))).run Tryz.prog W = .ok (.pointer (some ⟨g2, o2, none⟩)) W := by rw [<- hg2]; exact run_indexAt_adr slRat ao n cap .i64 j hhd hj
  unfold gtQ ltQ
  obtain ⟨r, hr⟩ : ∃ r, decide (cmpQ y x < 0) = r := ⟨_, rfl⟩
  rw [hr] at hcmp |-
  clear hq1 hq2 hc1 hc2 hg1 hg2 hy1 hy2 h hx hy hr e1' e2' b1 b2 hi' hj' hl hv
  go_enter Tryz.func187, Tryz.ntmps187
  go_upto_region 1 with fail
  refine wp_region_K 9 (fun w' => w'.cell? ⟨b, 0, none⟩ = some (.slice ao n cap) /\ w'.cell? ⟨g1, o1, none⟩ = some (.bool s1) /\ w'.cell? ⟨g1, o1 + 1, none⟩ = some (.slice a1 n1 c1) /\ w'.cell? ⟨g1, o1 + 2, none⟩ = some (.slice d1 k1 e1) /\ w'.cell? ⟨g2, o2, none⟩ = some (.bool s2) /\ w'.cell? ⟨g2, o2 + 1, none⟩ = some (.slice a2 n2 c2) /\ w'.cell? ⟨g2, o2 + 2, none⟩ = some (.slice d2 k2 e2)) (by kernel_rfl) (by kernel_rfl) (hS.out _ hEd) (fun hHeld hOnce => ?_)
  refine kt 0 hOnce ?_
  refine kt 1 hOnce ?_
  refine kt 2 hOnce ?_
  refine kt 3 hOnce ?_
  refine kt 4 hOnce ?_
  refine kt 5 hOnce ?_
  refine kt 6 hOnce ?_
  refine kt 7 hOnce ?_
  refine ks 8 (fun K hK => ?_)
  go_simp
  ((with_reducible refine hcmp.out.mono ?_); rintro ee wa ⟨ga, rfl⟩)
  refine kcn hK (hS.out _ (hEd.trans ga)) (fun hHeld => ?_)
  clear hK K
  refine kl 9 (fun K hK => ?_)
  go_simp
  refine hK.out _ _ ?_
  clear hK K
  have hE9 := hEd.trans ga
  clear hHeld hS hcmp
  go_wp2_with fail
  go_ret
  exact ⟨hE9, rfl⟩
theorem dscing_by (X : Nat -> Bool) (base : Nat) (ao : Option Addr) (cap n b : Nat) :
    SortBy gtQ 187 #[.pointer (some ⟨b, 0, none⟩)] 316 #[.slice ao n cap, typeHandle Tryz.prog 41] (ob ao) n (Sorting X base ao cap n b) where
  enter := Go.Proofs.enters_of Tryz.func187 (by kernel_rfl) rfl
  ext _ _ _ h hE := h.ext hE
  low d w h k hk := (h.own.block hk).2
  less d w h _ i j hi hj := (dsc_less h i j hi hj).mono fun _ _ ⟨hE, he⟩ => ⟨he, hE⟩
  swap d w h hn i j hi hj _ := by
    have hl : d.toList.length = n := by simpa using h.size
    obtain ⟨w', h1, h3, h4⟩ := h.own.run_swap (P := Tryz.prog) (t := 41) (ti := tiRat) false (by kernel_rfl) (by kernel_rfl) (fun _ => by kernel_rfl) QC.elem (fun _ _ _ h => by obtain ⟨_, _, _, _, _, _, _, rfl⟩ := h.shape; exact ⟨_, rfl⟩) i j (by omega) (by omega) cap
    rw [hl] at h1
    refine ⟨w', ?_, ⟨?_, by rw [size_swp]; exact h.size, h4.cellY h.var h.off, h.off, fun k hk => Nat.lt_of_lt_of_le (h.hid k hk) h4.size, ?_⟩, h4⟩
    · rw [run_callFunc_extern Tryz.func316 (by kernel_rfl) (by kernel_rfl) (by kernel_rfl) (e := Extern.ReflectliteSwapper.swap false) (by kernel_rfl)]
      rw [show (#[Value.int .i64 (i : Int), Value.int .i64 (j : Int)] ++ #[Value.slice ao n cap, typeHandle Tryz.prog 41]) = #[.int .i64 i, .int .i64 j, .slice ao n cap, typeHandle Tryz.prog 41] from rfl, h1]
      rfl
    · rw [swp_toList d i j (by omega) (by omega)]; exact h3
    · rw [swp_toList d i j (by omega) (by omega)]
      intro x hx
      rcases List.mem_or_eq_of_mem_set hx with hx | rfl
      · rcases List.mem_or_eq_of_mem_set hx with hx | rfl
        · exact h.br x hx
        · exact h.br _ (List.getElem_mem _)
      · exact h.br _ (List.getElem_mem _)
theorem dsccall (X : Nat -> Bool) (base : Nat) (ao : Option Addr) (cap b : Nat) (l : List Rat) (w : World) (h : Sorting X base ao cap l.length b l.toArray w) (hn : l.length <= 20) :
    Calls Tryz.prog 186 #[.iface 26 (.slice ao l.length cap), .func (.func 187) #[] #[.pointer (some ⟨b, 0, none⟩)]] w fun e w' =>
      e = .returned (.tuple #[]) /\ (Sorting X base ao cap l.length b (dscL l).toArray w' /\ ExtX (ob ao) w w') := by
  obtain ⟨n, hln⟩ : ∃ n, l.length = n := ⟨_, rfl⟩
  rw [hln] at h hn |-
  have hsz : l.toArray.size = n := by simpa using hln
  have hfin : ∀ w', Sorting X base ao cap n b (Go.Sort.insertionSort gtQ l.toArray 0 n) w' -> Sorting X base ao cap n b (dscL l).toArray w' := fun w' h' => by
    have := dsc_ins l.toArray
    rw [hsz] at this
    rw [show (dscL l).toArray = Go.Sort.insertionSort gtQ l.toArray 0 n by rw [<- this]]
    exact h'
  have key : ∀ (f : Nat) (sb : Array Value), SortBy gtQ 187 #[.pointer (some ⟨b, 0, none⟩)] f sb (ob ao) n (Sorting X base ao cap n b) -> ∀ w1, Ext w w1 ->
      Calls Tryz.prog 267 #[.agg #[.func (.func 187) #[] #[.pointer (some ⟨b, 0, none⟩)], .func (.func f) #[] sb], .int .i64 n] w1 fun e w' => e = .returned (.tuple #[]) /\ (Sorting X base ao cap n b (dscL l).toArray w' /\ ExtX (ob ao) w w') := fun f sb S w1 hE =>
    (stable_any S l.toArray w1 (h.ext hE) hsz hn).mono fun _ _ ⟨he, hI, _, hE2⟩ => ⟨he, hfin _ hI, (ExtX.of hE).trans hE2⟩
  have small : n < 2 -> ∀ f sb, SortBy gtQ 187 #[.pointer (some ⟨b, 0, none⟩)] f sb (ob ao) n (Sorting X base ao cap n b) := fun h2 f sb =>
    ⟨Go.Proofs.enters_of Tryz.func187 (by kernel_rfl) rfl, fun _ _ _ h hE => h.ext hE, fun d w h k hk => (h.own.block hk).2, fun d w h _ i j hi hj => (dsc_less h i j hi hj).mono fun _ _ ⟨hE, he⟩ => ⟨he, hE⟩, fun d w h _ i j hi hj hij => by omega⟩
  rcases Nat.lt_or_ge n 2 with h2 | h2
  · rcases Nat.eq_zero_or_pos n with h0 | h0
    · have eK : swapperK n tiRat 25 = 1 := by rw [swK, if_pos h0]
      refine slicestable_any 26 41 tiRats tiRat (by kernel_rfl) (by kernel_rfl) (by kernel_rfl) (by kernel_rfl) 25 (fun _ => by kernel_rfl) ao n cap (by omega) 308 (by rw [eK]; kernel_rfl) _ _ w _ ?_
      rw [eK]
      exact key _ _ (small h2 _ _)
    · have eK : swapperK n tiRat 25 = 2 := by rw [swK, if_neg (by omega), if_pos (by omega)]
      refine slicestable_any 26 41 tiRats tiRat (by kernel_rfl) (by kernel_rfl) (by kernel_rfl) (by kernel_rfl) 25 (fun _ => by kernel_rfl) ao n cap (by omega) 309 (by rw [eK]; kernel_rfl) _ _ w _ ?_
      rw [eK]
      exact key _ _ (small h2 _ _)
  · have eK : swapperK n tiRat 25 = 9 := by rw [swK, if_neg (by omega), if_neg (by omega)]
    refine slicestable_any 26 41 tiRats tiRat (by kernel_rfl) (by kernel_rfl) (by kernel_rfl) (by kernel_rfl) 25 (fun _ => by kernel_rfl) ao n cap (by omega) 316 (by rw [eK]; kernel_rfl) _ _ w _ ?_
    rw [eK]
    exact key _ _ (dscing_by X base ao cap n b)
end Go.Proofs.YtnnpfhoigmegcaaGreat
