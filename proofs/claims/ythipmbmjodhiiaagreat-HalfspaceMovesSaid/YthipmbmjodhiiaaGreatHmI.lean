/- append where there is room; a list that is cut. Conditions: none. exact.Subsets, over whatever its callback keeps. Conditions: small numbers. A drawn region whose last operation waits for all others: the loads are taken first under a condition that need not hold behind the last operation. Conditions: none. halfspace: the search for the depth: what lies in its boxes, one choice of vectors. Conditions: at most 64 vectors of at most 3 numbers of few digits. Small matrices are formed; a literal of one number. Conditions: none. certify.choose. Conditions: k ≤ n ≤ 64. Lists of integers in slices: ascending, common elements, equality. Conditions: lengths far below any machine's. The tape of choices: New, Mod, Next, Bool, Pick, Count. What is drawn is some number in the range. Conditions: none beyond small ranges. The tape of choices: New, Bool, Pick, Count, Subset, OddSubset. What is drawn is something in the range. Conditions: none beyond small ranges. The tape of choices: Subset, OddSubset. What is drawn is some list of numbers, laid in new blocks. Conditions: none beyond small ranges. halfspace: the search's callback. Conditions: at most 64 vectors of at most 3 numbers of few digits. The determinants and ranks that the program computes. Conditions: at most four rows for determinants. matrix: Rank, Det. Conditions: few rows and columns, numbers of few digits. -/
import Derived.Test.YthipmbmjodhiiaaGreatHmH
import Derived.WalkKit
import Derived.OrdersHeld
import Derived.StillTail
import Derived.Deep.RegionHeld
import Derived.Deep.RegionHeld3
import Derived.Deep.RegionLaw
import Derived.Deep.AppendLies
import Derived.BigRegion
namespace Go.Rep
open Go.RowKit

section
variable {P : Program} {ops : Array Oper} {Q : Exit → Act → World → Prop} {rest : List Oper} {a : Act} {w : World}
variable {α : Type} {R : Mem → Value → α → Prop} {sz : Nat} {X : Nat → Bool} {base : Nat} {e : TypeId} {ao : Option Addr} {cap : Nat} {l : List α}
variable {d : Option Tmp} {ty : TypeId} {ps : String} {af : Array Edge}

theorem OL.take (h : OL R sz X base e w ao cap l) (_hsz : ∀ m u x, R m u x → u.cells.size = sz) (n : Nat) : OL R sz X base e w ao cap (l.take n) := by
  have hf := h.form
  obtain ⟨hx, us, h1, h2, h22, ⟨h3, h4⟩, h5⟩ := h
  have hus : ∀ u ∈ us.take n, u.cells.size = sz := fun u hu => h2 u (List.mem_of_mem_take hu)
  refine ⟨hx, us.take n, by simp [h1], hus, fun u hu => h22 u (List.mem_of_mem_take hu), ⟨by rw [flat_length _ hus]; simp [h1], ?_⟩, fun i hi hi' => ?_⟩
  · rcases h4 with ⟨hv, hn⟩ | ⟨g, c, cur, hv, q1, q2, q3, q4, q5, q6⟩
    · simp at hv
      obtain ⟨rfl, h0, rfl⟩ := hv
      refine .inl ⟨by simp [h0], by simp [h0]⟩
    · simp at hv
      obtain ⟨rfl, rfl⟩ := hv
      refine .inr ⟨g, cap, cur, by simp, q1, q2, by simp; omega, q4, q5, ?_⟩
      have e1 : (us.take n).flatMap cellsL = (us.flatMap cellsL).take ((l.take n).length * sz) := by
        have e2 : us.flatMap cellsL = (us.take n).flatMap cellsL ++ (us.drop n).flatMap cellsL := by
          rw [← List.flatMap_append, List.take_append_drop]
        rw [e2]
        have e3 : (l.take n).length * sz = ((us.take n).flatMap cellsL).length := by rw [flat_length _ hus]; simp [h1]
        rw [e3, List.take_left]
      rw [e1, ← q6, List.take_take]
      congr 1
      have : (l.take n).length ≤ l.length := by simp; omega
      exact (Nat.min_eq_left (Nat.mul_le_mul_right _ this)).symm
  · simp only [List.getElem_take]
    exact h5 i (by simp at hi; omega) (by simp at hi'; omega)

/-- append(s, x) of one element, just laid in a block of its own, where there is room. -/
theorem st_append_room {t by_ : Nat} {z : Value} {arr : Array Value} {s x : Operand} {g n : Nat} (T : SliceT P t e sz by_ z) (hR : Elem R sz)
    (hs : a.eval s = .slice (some ⟨g, 0, none⟩) n cap) (hn : l.length = n) (hx : a.eval x = .slice (some ⟨w.heap.size, 0, none⟩) 1 1) (h : OL R sz X base e w (some ⟨g, 0, none⟩) cap l)
    (u : Value) (y : α) (harr : arr = u.cells) (hu : R (mk (un X (some ⟨g, 0, none⟩)) w) u y) (hroom : n + 1 ≤ cap)
    (K : ∀ w', OL R sz X base e w' (some ⟨g, 0, none⟩) cap (l ++ [y]) → ExtX (ob (some ⟨g, 0, none⟩)) w w' → wpList P ops Q rest (a.put d (.slice (some ⟨g, 0, none⟩) (n + 1) cap)) w') :
    wpList P ops Q (⟨d, .call { callee := .builtin .append, args := #[s, x], argTypes := #[t, t] }, ty, ps, af, none⟩ :: rest) a (w.alloc (.cells arr e)) := by
  subst hn
  refine wpList_plain rfl fun K' hK' => ?_
  have hE : Ext w (w.alloc (.cells arr e)) := (ExtX.refl w).alloc _
  have h' := h.ext0 hR hE
  obtain ⟨i, hi, hz, hsz, hby⟩ := info_parts T.info
  have hat := at_new w arr e u harr
  have husz := hR.size _ _ _ hu
  have hu1 := hR.one _ _ _ hu
  have hu2 : R (mk (un X (some ⟨g, 0, none⟩)) (w.alloc (.cells arr e))) u y := hR.mono _ _ _ _ (mk_ext hE) hu
  have hnl : (cellsL u).length = 1 * i.size := by simp [cellsL, husz, hsz]
  have hnews : ∀ j v, (cellsL u)[j]? = some v → (w.alloc (.cells arr e)).cell? ((⟨w.heap.size, 0, none⟩ : Addr).add j) = some v := by
    intro j v hj
    rw [← adr_addr rfl]; exact hat.2 j v (by simpa using hj)
  have hform := h'.form
  generalize hW : w.alloc (.cells arr e) = W at hE h' hu2 hnews hform
  obtain ⟨hx', us, h1, h2, h22, h3, h5⟩ := h'
  rcases hform with ⟨hv, _⟩ | ⟨g', cur, hv, h6, h7, h8, h9, h10⟩
  · simp at hv
  simp at hv
  subst hv
  have hul : (us.flatMap cellsL).length = l.length * i.size := by rw [flat_length us h2, h1, hsz]
  have hfl : (us ++ [u]).flatMap cellsL = us.flatMap cellsL ++ cellsL u := by simp
  have hnew : ∀ v ∈ us ++ [u], v.cells.size = sz := by
    intro v hv
    rcases List.mem_append.1 hv with hv | hv
    · exact h2 v hv
    · rw [List.mem_singleton.1 hv]; exact husz
  have hnew1 : ∀ v ∈ us ++ [u], ∀ c ∈ cellsL v, c.oneCell' = true := by
    intro v hv c hc
    rcases List.mem_append.1 hv with hv | hv
    · exact h22 v hv c hc
    · rw [List.mem_singleton.1 hv] at hc; exact hu1 c hc
  have hfit : l.length * i.size + (cellsL u).length ≤ cur.size := by rw [hnl, h10, ← hsz, ← Nat.add_mul]; exact Nat.mul_le_mul_right _ hroom
  have hr := run_append_room (P := P) W t ty e i T.und hi g l.length cap cur h7 ⟨w.heap.size, 0, none⟩ 1 1 (cellsL u) hnl hnews hu1 hroom hfit
  have hE2 : ExtX (ob (some ⟨g, 0, none⟩)) W (W.setRow g (cur.toList.take (l.length * i.size) ++ cellsL u ++ cur.toList.drop (l.length * i.size + (cellsL u).length)).toArray) :=
    ⟨rfl, rfl, rfl, by simp, fun k _ hk => setRow_other W g k _ (fun ek => by subst ek; simp [ob] at hk)⟩
  have hll : (l ++ [y]).length = l.length + 1 := by simp
  have hOL : OL R sz X base e (W.setRow g (cur.toList.take (l.length * i.size) ++ cellsL u ++ cur.toList.drop (l.length * i.size + (cellsL u).length)).toArray) (some ⟨g, 0, none⟩) cap (l ++ [y]) := by
    refine ⟨hx', us ++ [u], by simp [h1], hnew, hnew1, ⟨by rw [hfl]; simp [hul, hnl, hsz, Nat.add_mul], .inr ⟨g, cap, _, by rw [hll], h6, setRow_heap W g cur _ e _ h7, by rw [hll]; exact hroom, h9, ?_, ?_⟩⟩, ?_⟩
    · simp only [List.size_toArray, List.length_append, List.length_take, List.length_drop, Array.length_toList]; omega
    · rw [hfl, hll]
      rcases h3.2 with ⟨hv, _⟩ | ⟨g', c', cur', hv, _, h7', _, _, _, h11⟩
      · simp at hv
      simp at hv
      obtain ⟨rfl, rfl⟩ := hv
      rw [h7] at h7'
      obtain rfl : cur = cur' := by simpa using h7'
      have e1 : cur.toList.take (l.length * i.size) = us.flatMap cellsL := by rw [hsz]; exact h11
      rw [e1]
      have hll2 : (l.length + 1) * sz = (us.flatMap cellsL ++ cellsL u).length := by simp only [List.length_append, hul, hnl, hsz, Nat.add_mul]
      rw [hll2]
      exact List.take_left
    · intro k hk hk'
      have hle : Le (mk (un X (some ⟨g, 0, none⟩)) W) (mk (un X (some ⟨g, 0, none⟩)) _) := mkun_over hE2 (.inl rfl)
      by_cases hlt : k < us.length
      · simpa [List.getElem_append_left hlt, List.getElem_append_left (show k < l.length by omega)] using hR.mono _ _ _ _ hle (h5 k hlt (by omega))
      · have hke : k = us.length := by simp at hk; omega
        subst hke
        have := hR.mono _ _ _ _ hle hu2
        simpa [List.getElem_append_right, h1] using this
  unfold Oper.wp execOp
  simp only [resolve, invoke, builtin, Sem.run_bind, Sem.run_pure, Result.andThen_ok, List.map_toArray, List.map_cons, List.map_nil, hs, hx]
  rw [hr]
  exact hK' _ _ (K _ hOL ((ExtX.of hE).trans hE2))

/-- make([]T, 0, n). -/
theorem st_make0 {t by_ : Nat} {z : Value} {x y : Operand} {kl kc : IntKind} {m m0 : Int} (T : SliceT P t e sz by_ z) (_hzs : z.cells.size = sz) (X : Nat → Bool) (hX : ∀ k, X k = true → k < w.heap.size) (base : Nat) (hbase : base ≤ w.heap.size)
    (n : Nat) (hl : a.eval x = .int kl m0) (hm0 : m0 = 0) (hc : a.eval y = .int kc m) (hm : m = (n : Int)) (hroom : by_ * n ≤ 281474976710656) (hmax : n ≤ 9223372036854775807)
    (K : ∀ w', OL R sz X base e w' (some ⟨w.heap.size, 0, none⟩) n [] → Ext w w' → w'.heap.size = w.heap.size + 1 → wpList P ops Q rest (a.put d (.slice (some ⟨w.heap.size, 0, none⟩) 0 n)) w') :
    wpList P ops Q (⟨d, .makeSlice t x y, ty, ps, af, none⟩ :: rest) a w := by
  refine wpList_plain rfl fun K' hK' => ?_
  subst hm; subst hm0
  obtain ⟨i, hi, hiz, hsz, hby⟩ := info_parts T.info
  have hr := Go.run_make (P := P) w t e i z T.und hi hiz kl kc 0 n (by omega) (by omega) (by rw [hby, ← Int.natCast_mul]; omega) (by omega)
  simp only [Int.toNat_natCast, Int.toNat_zero] at hr
  unfold Oper.wp
  simp [execOp, hl, hc, hr, Result.andThen]
  refine hK' _ _ (K _ ⟨fun k hk => ?_, [], rfl, by simp, by simp, ⟨by simp, .inr ⟨w.heap.size, n, _, by simp, hbase, heap_alloc_new w _, by simp, by simpa [maxLen] using hmax, by rw [size_madeCells, hsz], by simp⟩⟩, fun i hi => by simp at hi⟩ ((ExtX.refl w).alloc _) (by simp))
  have : w.heap.size = k := by simpa [ob] using hk
  cases hh : X k
  · rfl
  · have := hX k hh; omega

end
end Go.Rep


namespace Go.Rep
open Go.RowKit
theorem OL.hide0 {α : Type} {R : Mem → Value → α → Prop} {sz base cap : Nat} {X Z : Nat → Bool} {e : TypeId} {w : World} {ao : Option Addr} {l : List α} (h : OL R sz X base e w ao cap l) (hR0 : ∀ h h' u x, R h u x → R h' u x) (hz : ∀ k, ob ao k = true → Z k = false) : OL R sz Z base e w ao cap l := by
  obtain ⟨hx, us, h1, h2, h22, h3, h5⟩ := h
  exact ⟨hz, us, h1, h2, h22, h3, fun i hi hi' => hR0 _ _ _ _ (h5 i hi hi')⟩
end Go.Rep
namespace Go.Lim
theorem combs_nil {m h : Nat} {lo : Int} (hm : m < h) : combs m h lo = [] := List.eq_nil_of_length_eq_zero (by rw [combs_length, ch_gt m h hm])
end Go.Lim
namespace Go.Proofs.YthipmbmjodhiiaaGreat
open Go.RowKit Go.Rep Go.Lim

/-- The six blocks of a call of Subsets. -/
def ownB (base : Nat) : Nat → Bool := fun k => decide (base ≤ k) && decide (k < base + 6)
def hbB (W : World) (g : Nat) : Nat → Bool := fun k => decide (k < W.heap.size) && !(k == g)
/-- What lies in them. -/
structure FromSt (base n k : Nat) (fv : Value) (W : World) (Q : List Int) : Prop where
  bn : W.heap[base]? = some (.cells #[.int .i64 (n : Int)] 3 (0, 0))
  bk : W.heap[base + 1]? = some (.cells #[.int .i64 (k : Int)] 3 (0, 0))
  bf : W.heap[base + 2]? = some (.cells #[fv] 93 (0, 0))
  bl : W.heap[base + 4]? = some (.cells #[.slice (some ⟨base + 3, 0, none⟩) Q.length k] 22 (0, 0))
  br : W.heap[base + 5]? = some (.cells #[.func (.func 108) #[] #[.pointer (some ⟨base + 4, 0, none⟩), .pointer (some ⟨base + 1, 0, none⟩), .pointer (some ⟨base + 2, 0, none⟩), .pointer (some ⟨base, 0, none⟩), .pointer (some ⟨base + 5, 0, none⟩)]] 115 (0, 0))
  ol : OL (IntIn .i64) 1 (hbB W (base + 3)) base 3 W (some ⟨base + 3, 0, none⟩) k Q
  sz : base + 6 ≤ W.heap.size

/-- The blocks of a call of Subsets stay asl they are. -/
def Keep (base : Nat) (W W' : World) : Prop := W.heap.size ≤ W'.heap.size ∧ ∀ k, ownB base k = true → W'.heap[k]? = W.heap[k]?

theorem ob3 {base k : Nat} (h : ob (some ⟨base, 0, none⟩) k = true) : base = k := by simpa [ob] using h
theorem hide3 {W : World} {base k : Nat} (h : ob (some ⟨base, 0, none⟩) k = true) : hbB W base k = false := by
  have := ob3 h
  subst this
  simp [hbB]
theorem intR0 : ∀ (h h' : Mem) (u : Value) (x : Int), IntIn .i64 h u x → IntIn .i64 h' u x := fun _ _ _ _ h => h

theorem FromSt.keep {base n k : Nat} {fv : Value} {W W' : World} {Q : List Int} (h : FromSt base n k fv W Q) (hk : Keep base W W') : FromSt base n k fv W' Q := by
  have hb : ∀ d, d < 6 → W'.heap[base + d]? = W.heap[base + d]? := fun d hd => hk.2 _ (by simp [ownB]; omega)
  refine ⟨by have := hb 0 (by omega); simp only [Nat.add_zero] at this; rw [this]; exact h.bn, by rw [hb 1 (by omega)]; exact h.bk, by rw [hb 2 (by omega)]; exact h.bf, by rw [hb 4 (by omega)]; exact h.bl, by rw [hb 5 (by omega)]; exact h.br, ?_, Nat.le_trans h.sz hk.1⟩
  have h0 := h.ol
  obtain ⟨hx, us, h1, h2, h22, ⟨h3, h4⟩, h5⟩ := h0
  refine ⟨fun k hk => hide3 hk, us, h1, h2, h22, ⟨h3, ?_⟩, fun i hi hi' => intR0 _ _ _ _ (h5 i hi hi')⟩
  rcases h4 with h4 | ⟨g, c, cur, hv, q1, q2, q3⟩
  · exact .inl h4
  · simp at hv
    obtain ⟨rfl, rfl⟩ := hv
    exact .inr ⟨base + 3, k, cur, by simp, q1, by rw [hb 3 (by omega)]; exact q2, q3⟩

theorem FromSt.set {base n k : Nat} {fv : Value} {W W1 : World} {Q Q' : List Int} (h : FromSt base n k fv W Q) (hE : ExtX (ob (some ⟨base + 3, 0, none⟩)) W W1) {X : Nat → Bool} (hO : OL (IntIn .i64) 1 X base 3 W1 (some ⟨base + 3, 0, none⟩) k Q') (m : Nat) (hm : m = Q'.length) :
    FromSt base n k fv (W1.setCell ⟨base + 4, 0, none⟩ (.slice (some ⟨base + 3, 0, none⟩) m k)) Q' ∧ ExtX (ownB base) W (W1.setCell ⟨base + 4, 0, none⟩ (.slice (some ⟨base + 3, 0, none⟩) m k)) ∧
      W1.cell? ⟨base + 4, 0, none⟩ = some (.slice (some ⟨base + 3, 0, none⟩) Q.length k) ∧ W1.frozen? ⟨base + 4, 0, none⟩ = false := by
  subst hm
  have hsz := h.sz
  have hE2 : ExtX (fun j => j == base + 4) W1 (W1.setCell ⟨base + 4, 0, none⟩ (.slice (some ⟨base + 3, 0, none⟩) Q'.length k)) :=
    ⟨rfl, rfl, rfl, by simp [World.setCell], fun j hj hy => Below.heap_setCell _ _ _ _ (fun e => by subst e; simp at hy)⟩
  have h1 : ∀ j, j < W.heap.size → j ≠ base + 3 → W1.heap[j]? = W.heap[j]? := fun j hj hn => hE.block j hj (by
    cases hh : ob (some ⟨base + 3, 0, none⟩) j
    · rfl
    · exact absurd (ob3 hh).symm hn)
  have h2 : ∀ j, j < W.heap.size → j ≠ base + 3 → j ≠ base + 4 → (W1.setCell ⟨base + 4, 0, none⟩ (.slice (some ⟨base + 3, 0, none⟩) Q'.length k)).heap[j]? = W.heap[j]? := fun j hj hn hn2 => by
    rw [hE2.block j (Nat.lt_of_lt_of_le hj hE.size) (by simpa using hn2), h1 j hj hn]
  have hbl := h1 (base + 4) (by omega) (by omega)
  rw [h.bl] at hbl
  have hnew : (W1.setCell ⟨base + 4, 0, none⟩ (.slice (some ⟨base + 3, 0, none⟩) Q'.length k)).heap[base + 4]? = some (.cells #[.slice (some ⟨base + 3, 0, none⟩) Q'.length k] 22 (0, 0)) := by
    simp only [World.setCell, Array.getElem?_modify, hbl]
    simp
  refine ⟨⟨by rw [h2 base (by omega) (by omega) (by omega)]; exact h.bn, by rw [h2 _ (by omega) (by omega) (by omega)]; exact h.bk, by rw [h2 _ (by omega) (by omega) (by omega)]; exact h.bf, hnew, by rw [h2 _ (by omega) (by omega) (by omega)]; exact h.br, ?_, by simp [World.setCell]; have := hE.size; omega⟩, ?_, by simp [World.cell?, hbl], by simp [World.frozen?, hbl]⟩
  · obtain ⟨hx, us, g1, g2, g22, ⟨g3, g4⟩, g5⟩ := hO
    refine ⟨fun k hk => hide3 hk, us, g1, g2, g22, ⟨g3, ?_⟩, fun i hi hi' => intR0 _ _ _ _ (g5 i hi hi')⟩
    rcases g4 with g4 | ⟨g, c, cur, hv, q1, q2, q3⟩
    · exact .inl g4
    · simp at hv
      obtain ⟨rfl, rfl⟩ := hv
      have hlt : base + 3 < W1.heap.size := by have := hE.size; omega
      exact .inr ⟨base + 3, k, cur, by simp, q1, by rw [hE2.block _ hlt (by simp)]; exact q2, q3⟩
  · refine ⟨hE2.os.trans hE.os, hE2.tape.trans hE.tape, hE2.output.trans hE.output, Nat.le_trans hE.size hE2.size, fun j hj hy => h2 j hj ?_ ?_⟩
    · intro e; subst e; simp [ownB] at hy
    · intro e; subst e; simp [ownB] at hy

section
variable (cb base n k : Nat) (caps : Array Value) (Inv : List (List Int) → World → Prop)

set_option maxRecDepth 100000 in
theorem from_any (hcf : ∀ (args : Array Value) (W : World), Sem.run Tryz.prog (callFunc cb args) W = .ok (.enter cb args) W) (hn : n ≤ 64) (hk : k ≤ 64)
    (hInv : ∀ done W W', Inv done W → ExtX (ownB base) W W' → Inv done W')
    (hCB : ∀ (done : List (List Int)) (s : List Int) (W : World), Inv done W → (∃ rest, done ++ [s] ++ rest = combs n k 0) → Sl (IntIn .i64) 1 W.cell? (some ⟨base + 3, 0, none⟩) s → base + 6 ≤ W.heap.size →
      Calls Tryz.prog cb (#[.slice (some ⟨base + 3, 0, none⟩) s.length k] ++ caps) W (fun e W' => e = .returned (.tuple #[]) ∧ Inv (done ++ [s]) W' ∧ Keep base W W')) (g : Nat) :
    ∀ (i : Nat) (Q : List Int) (done : List (List Int)) (W : World), Q.length + g = k → i ≤ n + 1 → FromSt base n k (.func (.func cb) #[] caps) W Q → Inv done W → Hid (∃ rest, done ++ (combs (n - i) g i).map (Q ++ ·) ++ rest = combs n k 0) →
    Calls Tryz.prog 108 #[.int .i64 (i : Int), .pointer (some ⟨base + 4, 0, none⟩), .pointer (some ⟨base + 1, 0, none⟩), .pointer (some ⟨base + 2, 0, none⟩), .pointer (some ⟨base, 0, none⟩), .pointer (some ⟨base + 5, 0, none⟩)] W
      (fun e W' => e = .returned (.tuple #[]) ∧ FromSt base n k (.func (.func cb) #[] caps) W' Q ∧ Inv (done ++ (combs (n - i) g i).map (Q ++ ·)) W') := by
  induction g with
  | zero =>
    intro i Q done W hQ hi hst hiv hpre
    have cl : W.cell? ⟨base + 4, 0, none⟩ = some (.slice (some ⟨base + 3, 0, none⟩) Q.length k) := by simp [World.cell?, hst.bl]
    have ck : W.cell? ⟨base + 1, 0, none⟩ = some (.int .i64 (k : Int)) := by simp [World.cell?, hst.bk]
    have cf : W.cell? ⟨base + 2, 0, none⟩ = some (.func (.func cb) #[] caps) := by simp [World.cell?, hst.bf]
    have hs : Sl (IntIn .i64) 1 W.cell? (some ⟨base + 3, 0, none⟩) Q := by
      have := (hst.ol.hide0 intR0 (Z := noY) (fun k hk => rfl)).sl (IntIn.elem _)
      rw [mk_noY] at this; exact this
    have hQk : Q.length = k := by omega
    go_enter Tryz.func108, Tryz.ntmps108
    go_wp2_with fail
    have hcb := hCB done Q W hiv (by obtain ⟨rest, hr⟩ := hpre.out; rw [combs_zero] at hr; exact ⟨rest, by simpa using hr⟩) hs hst.sz
    rw [hQk] at hcb
    refine hcb.mono ?_
    rintro e w1 ⟨rfl, hiv1, hkp⟩
    have hst1 := hst.keep hkp
    have hfin : Hid (done ++ (combs (n - i) 0 i).map (Q ++ ·) = done ++ [Q]) := hid (by rw [combs_zero]; simp)
    clear hst hs cl ck cf hcb
    go_wp2_with fail
    refine bodyPost_ret (results_none rfl _ _ _) rfl ?_
    rw [hfin.out]
    exact ⟨rfl, hst1, hiv1⟩
  | succ g ih =>
    intro i Q done W hQ hi hst hiv hpre
    have cl : W.cell? ⟨base + 4, 0, none⟩ = some (.slice (some ⟨base + 3, 0, none⟩) Q.length k) := by simp [World.cell?, hst.bl]
    have ck : W.cell? ⟨base + 1, 0, none⟩ = some (.int .i64 (k : Int)) := by simp [World.cell?, hst.bk]
    have hQk : ((Q.length : Int) == (k : Int)) = false := beqF (by omega)
    go_enter Tryz.func108, Tryz.ntmps108
    go_wp2_with fail
    go_loopw [0] (fun c wr => ∃ (j : Nat) (D : List (List Int)), c = .int .i64 j ∧ j ≤ n + 1 ∧ FromSt base n k (.func (.func cb) #[] caps) wr Q ∧ Inv D wr ∧ Hid (D ++ (combs (n - j) (g + 1) j).map (Q ++ ·) = done ++ (combs (n - i) (g + 1) i).map (Q ++ ·)) ) (fun c _ => n + 1 - (intOf c).toNat)
    case atStart => exact ⟨i, done, rfl, hi, hst, hiv, hid rfl⟩
    case round =>
      obtain ⟨j, D, rfl, hj, hst1, hiv1, hDe⟩ := hrel
      clear cl ck hst hiv
      have cl : wr.cell? ⟨base + 4, 0, none⟩ = some (.slice (some ⟨base + 3, 0, none⟩) Q.length k) := by simp [World.cell?, hst1.bl]
      have ck : wr.cell? ⟨base + 1, 0, none⟩ = some (.int .i64 (k : Int)) := by simp [World.cell?, hst1.bk]
      have cn : wr.cell? ⟨base, 0, none⟩ = some (.int .i64 (n : Int)) := by simp [World.cell?, hst1.bn]
      by_cases hlt : j + g + 1 ≤ n
      · obtain ⟨m, hm⟩ : ∃ m, n - j = m + 1 := ⟨n - j - 1, by omega⟩
        have hmn : n - (j + 1) = m := by omega
        go_wp2_with (at_builtin; refine st_append_room slInt (IntIn.elem .i64) rfl rfl rfl hst1.ol (.int .i64 j) (j : Int) rfl rfl (by omega) ?_; intro w2 hO2 hE2; obtain ⟨hst2, hE3, cl2, fl2⟩ := hst1.set hE2 hO2 (Q.length + 1) (by simp); have cr := cell_of_one hst2.br)
        have hiv2 := hInv _ _ _ hiv1 hE3
        have hih := ih (j + 1) (Q ++ [(j : Int)]) D _ (by simp; omega) (by omega) hst2 hiv2 (hid (by
          obtain ⟨rest, hr⟩ := hpre.out
          refine ⟨(combs (n - (j + 1)) (g + 1) ((j + 1 : Nat) : Int)).map (Q ++ ·) ++ rest, ?_⟩
          rw [← hr, ← hDe.out, hm, hmn, combs, show ((j + 1 : Nat) : Int) = (j : Int) + 1 by omega]
          have hmm : (combs m g ((j : Int) + 1)).map ((Q ++ [(j : Int)]) ++ ·) = ((combs m g ((j : Int) + 1)).map ((j : Int) :: ·)).map (Q ++ ·) := by
            rw [List.map_map]
            apply List.map_congr_left
            intro r _
            simp
          rw [hmm, List.map_append]
          simp only [List.append_assoc]))
        rw [show ((j + 1 : Nat) : Int) = (j : Int) + 1 by omega] at hih
        refine hih.mono ?_
        rintro e w4 ⟨rfl, hst4, hiv4⟩
        clear hih
        have cl4 := cell_of_one hst4.bl
        rw [show (Q ++ [(j : Int)]).length = Q.length + 1 by simp] at cl4
        have htk := hst4.ol.take (IntIn.elem .i64).size Q.length
        rw [List.take_left] at htk
        obtain ⟨hst5, hE5, _, fl4⟩ := hst4.set (ExtX.refl _) htk Q.length rfl
        have hiv5 := hInv _ _ _ hiv4 hE5
        have hDe2 : Hid ((D ++ (combs (n - (j + 1)) g ((j : Int) + 1)).map ((Q ++ [(j : Int)]) ++ ·)) ++ (combs (n - (j + 1)) (g + 1) ((j + 1 : Nat) : Int)).map (Q ++ ·) = done ++ (combs (n - i) (g + 1) i).map (Q ++ ·)) := hid (by
          rw [← hDe.out, hm, hmn, combs, show ((j + 1 : Nat) : Int) = (j : Int) + 1 by omega]
          have hmm : (combs m g ((j : Int) + 1)).map ((Q ++ [(j : Int)]) ++ ·) = ((combs m g ((j : Int) + 1)).map ((j : Int) :: ·)).map (Q ++ ·) := by
            rw [List.map_map]
            apply List.map_congr_left
            intro r _
            simp
          rw [hmm, List.map_append, List.append_assoc])
        clear cl ck cn hst1 hiv1 hO2 hE2 hst2 hE3 cl2 fl2 cr hiv2 hm hmn
        go_wp2_with fail
        go_roundw
        case rel => exact ⟨j + 1, _, by go_num, by omega, hst5, hiv5, hDe2⟩
        case measure => simp [intOf]; omega
      · have hnil : Hid (D = done ++ (combs (n - i) (g + 1) i).map (Q ++ ·)) := hid (by
          have := hDe.out
          rw [combs_nil (by omega)] at this
          simpa using this)
        go_wp2_with fail
        go_end0
        rw [← hnil.out]
        exact ⟨rfl, hst1, hiv1⟩
end

theorem two_new (w : World) (u v : Value) (t1 t2 : TypeId) (wd : World) (h : (w.alloc (.cells #[u] t1)).alloc (.cells #[v] t2) = wd) : Ext w wd ∧ wd.heap[w.heap.size]? = some (.cells #[u] t1 (0, 0)) ∧ wd.heap[w.heap.size + 1]? = some (.cells #[v] t2 (0, 0)) ∧ wd.heap.size = w.heap.size + 2 := by
  subst h
  refine ⟨((ExtX.refl w).alloc _).alloc _, ?_, ?_, by simp⟩
  · rw [Below.heap_alloc _ _ _ (by simp)]; exact heap_alloc_new w _
  · have := heap_alloc_new (w.alloc (.cells #[u] t1)) (.cells #[v] t2 (0, 0))
    simpa using this

theorem infFn : (Tryz.prog.info? 115).map (fun i => (i.zero, i.size, i.bytes)) = some (some .nilFunc, 1, 8) := by kernel_rfl
theorem tyFn : TyI Tryz.prog 115 1 := let ⟨i, h, _, h2, _⟩ := info_parts infFn; ⟨i, h, h2⟩
theorem hbB_lt (W : World) (g : Nat) : ∀ j, hbB W g j = true → j < W.heap.size := fun j hj => by
  have h : j < W.heap.size ∧ ¬ j = g := by simpa [hbB] using hj
  exact h.1
theorem made_facts {w wb wc wd : World} {vk u v : Value} {t0 t1 t2 : TypeId} (hzb : wb.heap.size = w.heap.size + 3) (hEc : Ext wb wc) (hzc : wc.heap.size = wb.heap.size + 1) (hwd : (wc.alloc (.cells #[u] t1)).alloc (.cells #[v] t2) = wd) (b1 : wb.heap[w.heap.size + 1]? = some (.cells #[vk] t0 (0, 0))) :
    Ext wc wd ∧ wd.cell? ⟨w.heap.size + 3 + 1 + 1, 0, none⟩ = some v ∧ wd.frozen? ⟨w.heap.size + 3 + 1 + 1, 0, none⟩ = false ∧ wd.cell? ⟨w.heap.size + 1, 0, none⟩ = some vk ∧
      wd.heap[w.heap.size + 3 + 1]? = some (.cells #[u] t1 (0, 0)) ∧ wd.heap[w.heap.size + 3 + 1 + 1]? = some (.cells #[v] t2 (0, 0)) ∧ wd.heap.size = w.heap.size + 6 := by
  obtain ⟨hEd, d4, d5, hzd⟩ := two_new wc _ _ _ _ wd hwd
  have hz4 : wc.heap.size = w.heap.size + 3 + 1 := by omega
  rw [hz4] at d4 d5
  have e1 := (hEc.trans hEd).block (w.heap.size + 1) (by omega) rfl
  rw [b1] at e1
  exact ⟨hEd, cell_of_one d5, free_of_one d5, cell_of_one e1, d4, d5, by omega⟩

theorem FromSt.start {w wb wc wd : World} {n k : Nat} {fv : Value} {X : Nat → Bool} (hEb : Ext w wb) (hzb : wb.heap.size = w.heap.size + 3)
    (b0 : wb.heap[w.heap.size]? = some (.cells #[.int .i64 (n : Int)] 3 (0, 0))) (b1 : wb.heap[w.heap.size + 1]? = some (.cells #[.int .i64 (k : Int)] 3 (0, 0))) (b2 : wb.heap[w.heap.size + 2]? = some (.cells #[fv] 93 (0, 0)))
    (hEc : Ext wb wc) (hzc : wc.heap.size = wb.heap.size + 1) (hOc : OL (IntIn .i64) 1 X w.heap.size 3 wc (some ⟨wb.heap.size, 0, none⟩) k []) (hEd : Ext wc wd)
    (d4 : wd.heap[w.heap.size + 3 + 1]? = some (.cells #[.slice (some ⟨w.heap.size + 3, 0, none⟩) 0 k] 22 (0, 0))) (d5 : wd.heap[w.heap.size + 3 + 1 + 1]? = some (.cells #[.nilFunc] 115 (0, 0))) (hzd : wd.heap.size = w.heap.size + 6) :
    FromSt w.heap.size n k fv (wd.setCell ⟨w.heap.size + 3 + 1 + 1, 0, none⟩ (.func (.func 108) #[] #[.pointer (some ⟨w.heap.size + 3 + 1, 0, none⟩), .pointer (some ⟨w.heap.size + 1, 0, none⟩), .pointer (some ⟨w.heap.size + 1 + 1, 0, none⟩), .pointer (some ⟨w.heap.size, 0, none⟩), .pointer (some ⟨w.heap.size + 3 + 1 + 1, 0, none⟩)])) [] ∧
      ExtX (ownB w.heap.size) w (wd.setCell ⟨w.heap.size + 3 + 1 + 1, 0, none⟩ (.func (.func 108) #[] #[.pointer (some ⟨w.heap.size + 3 + 1, 0, none⟩), .pointer (some ⟨w.heap.size + 1, 0, none⟩), .pointer (some ⟨w.heap.size + 1 + 1, 0, none⟩), .pointer (some ⟨w.heap.size, 0, none⟩), .pointer (some ⟨w.heap.size + 3 + 1 + 1, 0, none⟩)])) := by
  obtain ⟨f, hf⟩ : ∃ f, Value.func (.func 108) #[] #[.pointer (some ⟨w.heap.size + 3 + 1, 0, none⟩), .pointer (some ⟨w.heap.size + 1, 0, none⟩), .pointer (some ⟨w.heap.size + 1 + 1, 0, none⟩), .pointer (some ⟨w.heap.size, 0, none⟩), .pointer (some ⟨w.heap.size + 3 + 1 + 1, 0, none⟩)] = f := ⟨_, rfl⟩
  rw [hf]
  have hother : ∀ j, j ≠ w.heap.size + 5 → (wd.setCell ⟨w.heap.size + 3 + 1 + 1, 0, none⟩ f).heap[j]? = wd.heap[j]? := fun j hj => Below.heap_setCell _ _ _ _ (fun e => hj e)
  have hE : Ext wb wd := hEc.trans hEd
  have hn5 : (wd.setCell ⟨w.heap.size + 3 + 1 + 1, 0, none⟩ f).heap[w.heap.size + 3 + 1 + 1]? = some (.cells #[f] 115 (0, 0)) := by
    simp only [World.setCell, Array.getElem?_modify, d5]
    simp
  refine ⟨⟨?_, ?_, ?_, ?_, ?_, ?_, by simp [World.setCell, hzd]⟩, ?_⟩
  · rw [hother _ (by omega), hE.block _ (by omega) rfl]; exact b0
  · rw [hother _ (by omega), hE.block _ (by omega) rfl]; exact b1
  · rw [hother _ (by omega), hE.block _ (by omega) rfl]; exact b2
  · rw [hother _ (by omega)]; exact d4
  · rw [← hf] at hn5 ⊢; exact hn5
  · rw [hzb] at hOc
    obtain ⟨hx, us, g1, g2, g22, ⟨g3, g4⟩, g5⟩ := hOc
    refine ⟨fun k hk => hide3 hk, us, g1, g2, g22, ⟨g3, ?_⟩, fun i hi hi' => intR0 _ _ _ _ (g5 i hi hi')⟩
    rcases g4 with g4 | ⟨g, c, cur, hv, q1, q2, q3⟩
    · exact .inl g4
    · simp at hv
      obtain ⟨rfl, rfl⟩ := hv
      exact .inr ⟨w.heap.size + 3, k, cur, by simp, q1, by rw [hother _ (by omega), hEd.block _ (by omega) rfl]; exact q2, q3⟩
  · refine ⟨hEd.os.trans (hEc.os.trans hEb.os), hEd.tape.trans (hEc.tape.trans hEb.tape), hEd.output.trans (hEc.output.trans hEb.output), by simp [World.setCell, hzd], fun j hj _ => ?_⟩
    rw [hother _ (by omega), (hEb.trans hE).block j hj rfl]

set_option maxRecDepth 100000 in
theorem subsets_any (cb n k : Nat) (caps : Array Value) (Inv : List (List Int) → World → Prop) (w : World) (hcf : ∀ (args : Array Value) (W : World), Sem.run Tryz.prog (callFunc cb args) W = .ok (.enter cb args) W) (hn : n ≤ 64) (hk : k ≤ 64)
    (hInv : ∀ done W W', Inv done W → ExtX (ownB w.heap.size) W W' → Inv done W')
    (hCB : ∀ (done : List (List Int)) (s : List Int) (W : World), Inv done W → (∃ rest, done ++ [s] ++ rest = combs n k 0) → Sl (IntIn .i64) 1 W.cell? (some ⟨w.heap.size + 3, 0, none⟩) s → w.heap.size + 6 ≤ W.heap.size →
      Calls Tryz.prog cb (#[.slice (some ⟨w.heap.size + 3, 0, none⟩) s.length k] ++ caps) W (fun e W' => e = .returned (.tuple #[]) ∧ Inv (done ++ [s]) W' ∧ Keep w.heap.size W W'))
    (h0 : Inv [] w) :
    Calls Tryz.prog 72 #[.int .i64 (n : Int), .int .i64 (k : Int), .func (.func cb) #[] caps] w (fun e W' => e = .returned (.tuple #[]) ∧ Inv (combs n k 0) W') := by
  have hmf : ∀ (fn : Fn) (first cap : Array Value) (w : World), (Instr.makeFunc fn first cap).run Tryz.prog w = .ok (.func fn first cap) w := fun _ _ _ _ => rfl
  obtain ⟨wb, hwb⟩ : ∃ wb, (((w.alloc (.cells #[.int .i64 (n : Int)] 3)).alloc (.cells #[.int .i64 (k : Int)] 3)).alloc (.cells #[.func (.func cb) #[] caps] 93)) = wb := ⟨_, rfl⟩
  have hEb : Ext w wb := by rw [← hwb]; exact (((ExtX.refl w).alloc _).alloc _).alloc _
  have hzb : wb.heap.size = w.heap.size + 3 := by rw [← hwb]; simp
  have b0 : wb.heap[w.heap.size]? = some (.cells #[.int .i64 (n : Int)] 3 (0, 0)) := by
    rw [← hwb, Below.heap_alloc _ _ _ (by simp; omega), Below.heap_alloc _ _ _ (by simp)]; exact heap_alloc_new w _
  have b1 : wb.heap[w.heap.size + 1]? = some (.cells #[.int .i64 (k : Int)] 3 (0, 0)) := by
    rw [← hwb, Below.heap_alloc _ _ _ (by simp)]
    have := heap_alloc_new (w.alloc (.cells #[.int .i64 (n : Int)] 3)) (.cells #[.int .i64 (k : Int)] 3 (0, 0))
    simpa using this
  have b2 : wb.heap[w.heap.size + 2]? = some (.cells #[.func (.func cb) #[] caps] 93 (0, 0)) := by
    rw [← hwb]
    have := heap_alloc_new ((w.alloc (.cells #[.int .i64 (n : Int)] 3)).alloc (.cells #[.int .i64 (k : Int)] 3)) (.cells #[.func (.func cb) #[] caps] 93 (0, 0))
    simpa using this
  have ck := cell_of_one b1
  go_enter Tryz.func72, Tryz.ntmps72
  go_wp2_with (first | ((with_reducible show wpList _ _ _ (⟨_, .store _ _ _, _, _, _, _⟩ :: _) _ _); refine st_cell tyFn rfl rfl rfl rfl cd fd ?_) | (at_make; refine st_make0 (R := IntIn .i64) slInt rfl (hbB wb (w.heap.size + 3)) (hbB_lt wb _) w.heap.size hEb.size k rfl rfl rfl rfl (by omega) (by omega) ?_; intro wc hOc hEc hzc; obtain ⟨wd, hwd⟩ : ∃ wd, (wc.alloc (.cells #[.slice (some ⟨w.heap.size + 3, 0, none⟩) 0 k] 22)).alloc (.cells #[.nilFunc] 115) = wd := ⟨_, rfl⟩; obtain ⟨hEd, cd, fd, ck2, d4, d5, hzd⟩ := made_facts hzb hEc hzc hwd b1))
  obtain ⟨hst0, hEf⟩ := FromSt.start (fv := .func (.func cb) #[] caps) hEb hzb b0 b1 b2 hEc hzc hOc hEd d4 d5 hzd
  have hpre : Hid (∃ rest, ([] : List (List Int)) ++ (combs (n - 0) k ((0 : Nat) : Int)).map (([] : List Int) ++ ·) ++ rest = combs n k 0) := hid ⟨[], by simp⟩
  refine (from_any cb w.heap.size n k caps Inv hcf hn hk hInv hCB k 0 [] [] _ (by simp) (by omega) hst0 (hInv _ _ _ h0 hEf) hpre).mono ?_
  rintro e w9 ⟨rfl, _, hiv⟩
  have hfin : Hid (([] : List (List Int)) ++ (combs (n - 0) k ((0 : Nat) : Int)).map (([] : List Int) ++ ·) = combs n k 0) := hid (by simp)
  rw [hfin.out] at hiv
  clear hst0 hEf cd fd ck2 d4 d5 hEd hOc hEc b0 b1 b2 hEb ck hwd hwb
  go_wp2_with fail
  go_end0
  exact ⟨rfl, hiv⟩
end Go.Proofs.YthipmbmjodhiiaaGreat


namespace Go
section
variable {P : Program} {ops : Array Oper} {Q : Exit → Act → World → Prop} {md : Region.Mode} {S : World → Prop} {n : Nat}
/-- Whatever order is picked from here on, and S holds behind every operation ahead of number n that is carried out. -/
def wpAnyK (P : Program) (md : Region.Mode) (ops : Array Oper) (Q : Exit → Act → World → Prop) (S : World → Prop) (n : Nat) : Nat → Array Bool → Act → World → Prop
  | 0, listed, a, w => Region.ready md ops listed = [] ∧ Q .normal a w
  | fuel + 1, listed, a, w =>
    (Region.ready md ops listed = [] → Q .normal a w) ∧
    ∀ i ∈ Region.ready md ops listed, wpOp P ops Q i (fun a' w' => (i < n → S w') ∧ wpAnyK P md ops Q S n fuel (listed.setIfInBounds i true) a' w') a w
theorem wpAny_of_K : ∀ (fuel : Nat) (listed : Array Bool) (a : Act) (w : World), wpAnyK P md ops Q S n fuel listed a w → wpAny P md ops Q fuel listed a w
  | 0, _, _, _, h => h
  | fuel + 1, _, _, _, h => ⟨h.1, fun i hi => wpOp_mono (fun a' w' h' => wpAny_of_K fuel _ a' w' h'.2) (h.2 i hi)⟩
theorem wpAnyK_first {i : Nat} {oi : Oper} {v : Value} (hs : Region.sinkB md ops n = true) (hc : Region.chainB md ops n = true) (hn : n < ops.size) (hin : i < n) (hi : ops[i]? = some oi) (hsel : ∀ (j : Nat) (o : Oper) cs b, ops[j]? = some o → o.op ≠ .select cs b)
    (hQ : ∀ c a w, Q (.panic c) (a.put oi.dst v) w → Q (.panic c) a w) :
    ∀ (fuel : Nat) (listed : Array Bool) (a : Act) (w : World), HeadInv md ops n listed →
      (∀ j oj, ops[j]? = some oj → j ≠ i → listed.getD j true = false → (∀ e ∈ oj.after, Region.binds md e = true → e.on ≠ i) → oi.apart ops oj = true) →
      i ∈ Region.ready md ops listed → YieldsIf P ops S oi v a → S w →
      wpAnyK P md ops Q S n fuel (listed.setIfInBounds i true) (a.put oi.dst v) w → wpAnyK P md ops Q S n (fuel + 1) listed a w := by
  intro fuel
  induction fuel with
  | zero =>
    intro listed a w _ _ hr hy hS H
    refine ⟨fun h => (by rw [h] at hr; cases hr), fun j hj => ?_⟩
    by_cases hji : j = i
    · subst hji; exact hy.wpOp hi hS ⟨fun _ => hS, H⟩
    · have := ready_mono hj hji
      rw [H.1] at this
      cases this
  | succ fuel ih =>
    intro listed a w inv hfree hr hy hS H
    refine ⟨fun h => (by rw [h] at hr; cases hr), fun j hj => ?_⟩
    by_cases hji : j = i
    · subst hji; exact hy.wpOp hi hS ⟨fun _ => hS, H⟩
    · have hjn : j < n := by
        rcases Nat.lt_or_ge j n with h | h
        · exact h
        · exact absurd hj (tail_waits hs hc hn inv (n - i) i rfl hin (mem_ready.1 hr).1 j h)
      have h1 := H.2 j (ready_mono hj hji)
      obtain ⟨hjun, oj, hoj, hall⟩ := mem_ready.1 hj
      have hnot : ∀ e ∈ oj.after, Region.binds md e = true → e.on ≠ i := fun e he hb heq => by
        have h1 := hall e he hb
        have h0 := (mem_ready.1 hr).1
        rw [heq] at h1
        rcases Nat.lt_or_ge i listed.size with h' | h'
        · simp [h'] at h0 h1; rw [h0] at h1; cases h1
        · simp [Array.getElem?_eq_none h'] at h1
      have h2 := wpOp_putIf hoj (hfree j oj hoj hji hjun hnot) (fun cs b => hsel i oi cs b hi) (fun cs b => hsel j oj cs b hoj) hQ hy h1
      have hfree' : ∀ k ok, ops[k]? = some ok → k ≠ i → (listed.setIfInBounds j true).getD k true = false →
          (∀ e ∈ ok.after, Region.binds md e = true → e.on ≠ i) → oi.apart ops ok = true := fun k ok hk hki hun hno => by
        refine hfree k ok hk hki ?_ hno
        by_cases hjk : j = k
        · subst hjk; exact hjun
        · rw [getD_set_ne true hjk] at hun; exact hun
      refine wpOp_mono (fun a' w' h3 => ⟨h3.2.1, ih (listed.setIfInBounds j true) a' w' (inv.set hj hjn) hfree' (ready_mono hr (Ne.symm hji)) h3.1 (h3.2.1 hjn) ?_⟩) h2
      rw [Array.setIfInBounds_comm _ _ hji]
      exact h3.2.2
/-- The invariant of what is listed, asl a Bool. -/
def headB (md : Region.Mode) (ops : Array Oper) (n : Nat) (listed : Array Bool) : Bool :=
  decide (listed.size = ops.size) &&
  ((List.range ops.size).all fun j => !listed.getD j false || (match ops[j]? with | some o => o.after.all fun e => !Region.binds md e || listed.getD e.on false | none => true)) &&
  ((List.range ops.size).all fun t => decide (t < n) || !listed.getD t true)
theorem headB_inv {listed : Array Bool} (h : headB md ops n listed = true) : HeadInv md ops n listed := by
  unfold headB at h
  simp only [Bool.and_eq_true, decide_eq_true_eq] at h
  obtain ⟨⟨h1, h2⟩, h3⟩ := h
  refine ⟨h1, fun j oj hj hl e he hb => ?_, fun t ht ht' => ?_⟩
  · have hlt : j < ops.size := (Array.getElem?_eq_some_iff.1 hj).1
    have h4 := List.all_eq_true.1 h2 j (List.mem_range.2 hlt)
    rw [hl, hj] at h4
    simp only [Bool.not_true, Bool.false_or] at h4
    have h5 := Array.all_eq_true_iff_forall_mem.1 h4 e he
    rw [hb] at h5
    simpa using h5
  · have h4 := List.all_eq_true.1 h3 t (List.mem_range.2 ht')
    simp only [Bool.or_eq_true, decide_eq_true_eq, Bool.not_eq_true'] at h4
    rcases h4 with h4 | h4
    · omega
    · exact h4
/-- What a take asks of the region, asl a Bool. -/
def takeB (md : Region.Mode) (ops : Array Oper) (n i : Nat) (listed : Array Bool) : Bool :=
  decide (i < n) && headB md ops n listed && Region.free md ops listed i && (Region.ready md ops listed).contains i
/-- What is asked once. -/
def onceB (md : Region.Mode) (ops : Array Oper) (n : Nat) : Bool := Region.sinkB md ops n && Region.chainB md ops n && decide (n < ops.size) && Region.noSelect ops
theorem wpAnyK_take {i : Nat} {oi : Oper} {v : Value} {fuel : Nat} {listed : Array Bool} {a : Act} {w : World} (hO : Shut (onceB md ops n = true)) (hi : ops[i]? = some oi)
    (hB : takeB md ops n i listed = true)
    (hQ : ∀ c a w, Q (.panic c) (a.put oi.dst v) w → Q (.panic c) a w) (hS : S w) (hw : Region.wanted oi (yielded ops a.tmps) = true) (hy : ∀ w, S w → (execOp a.eval oi).run P w = .ok (.value v) w)
    (h : wpAnyK P md ops Q S n fuel (listed.setIfInBounds i true) (a.put oi.dst v) w) : wpAnyK P md ops Q S n (fuel + 1) listed a w := by
  unfold takeB at hB
  simp only [Bool.and_eq_true, decide_eq_true_eq] at hB
  obtain ⟨⟨⟨b4, b5⟩, b7⟩, b8⟩ := hB
  have hO := hO.out
  unfold onceB at hO
  simp only [Bool.and_eq_true, decide_eq_true_eq] at hO
  obtain ⟨⟨⟨b1, b2⟩, b3⟩, b6⟩ := hO
  exact wpAnyK_first b1 b2 b3 b4 hi (Region.noSelect_spec b6) hQ fuel listed a w (headB_inv b5) (Region.free_spec hi b7) (by simpa using b8) (.inl ⟨hw, hy⟩) hS h
/-- One alone may come up: behind it S is shown anew. -/
theorem wpAnyK_step {i : Nat} {o : Oper} {fuel : Nat} {listed : Array Bool} {a : Act} {w : World} (hr : Region.ready md ops listed = [i]) (ho : ops[i]? = some o)
    (h : ∀ K' : Act → World → Prop, Shut (∀ a w, S w → (S w → wpAnyK P md ops Q S n fuel (listed.setIfInBounds i true) a w) → K' a w) → if Region.wanted o (yielded ops a.tmps) = true then Oper.wp P o a w K' Q else K' (a.put o.dst undef) w) : wpAnyK P md ops Q S n (fuel + 1) listed a w := by
  refine ⟨fun h0 => (by rw [hr] at h0; cases h0), fun j hj => ?_⟩
  rw [hr] at hj
  have : j = i := by simpa using hj
  subst this
  exact wpOp_step ho (fun K' hK => h K' (fun a w hS hW => hK a w ⟨fun _ => hS, hW hS⟩))
/-- One of two may come up. -/
theorem wpAnyK_two {i j : Nat} {oi oj : Oper} {fuel : Nat} {listed : Array Bool} {a : Act} {w : World} (hr : Region.ready md ops listed = [i, j]) (hi : ops[i]? = some oi) (hj : ops[j]? = some oj)
    (h1 : ∀ K' : Act → World → Prop, Shut (∀ a w, S w → (S w → wpAnyK P md ops Q S n fuel (listed.setIfInBounds i true) a w) → K' a w) → if Region.wanted oi (yielded ops a.tmps) = true then Oper.wp P oi a w K' Q else K' (a.put oi.dst undef) w)
    (h2 : ∀ K' : Act → World → Prop, Shut (∀ a w, S w → (S w → wpAnyK P md ops Q S n fuel (listed.setIfInBounds j true) a w) → K' a w) → if Region.wanted oj (yielded ops a.tmps) = true then Oper.wp P oj a w K' Q else K' (a.put oj.dst undef) w) : wpAnyK P md ops Q S n (fuel + 1) listed a w := by
  refine ⟨fun h0 => (by rw [hr] at h0; cases h0), fun k hk => ?_⟩
  rw [hr] at hk
  rcases List.mem_cons.1 hk with rfl | hk
  · exact wpOp_step hi (fun K' hK => h1 K' (fun a w hS hW => hK a w ⟨fun _ => hS, hW hS⟩))
  · obtain rfl : k = j := by simpa using hk
    exact wpOp_step hj (fun K' hK => h2 K' (fun a w hS hW => hK a w ⟨fun _ => hS, hW hS⟩))
/-- The last operation. -/
theorem wpAnyK_last {i : Nat} {o : Oper} {fuel : Nat} {listed : Array Bool} {a : Act} {w : World} (hr : Region.ready md ops listed = [i]) (ho : ops[i]? = some o) (hin : n ≤ i)
    (hd : Region.ready md ops (listed.setIfInBounds i true) = [])
    (h : ∀ K' : Act → World → Prop, Shut (∀ a w, Q .normal a w → K' a w) → if Region.wanted o (yielded ops a.tmps) = true then Oper.wp P o a w K' Q else K' (a.put o.dst undef) w) : wpAnyK P md ops Q S n (fuel + 1) listed a w := by
  refine ⟨fun h0 => (by rw [hr] at h0; cases h0), fun j hj => ?_⟩
  rw [hr] at hj
  have : j = i := by simpa using hj
  subst this
  refine wpOp_step ho (fun K' hK => h K' (fun a w hq => hK a w ⟨fun hlt => absurd hlt (Nat.not_lt.2 hin), ?_⟩))
  cases fuel with
  | zero => exact ⟨hd, hq⟩
  | succ f => exact ⟨fun _ => hq, by rw [hd]; simp⟩
theorem wp_region_K {id : Nat} {a : Act} {w : World} (n : Nat) (S : World → Prop) (hm : P.follows .mixedOrders = true) (hO : onceB .any ops n = true) (hS : S w.drew)
    (h : S w.drew → Shut (onceB .any ops n = true) → wpAnyK P .any ops Q S n ops.size (Array.replicate ops.size false) a w.drew) : (Code.region id ops true).wp P Q a w :=
  wp_region_any hm (wpAny_of_K _ _ _ _ (h hS hO))
end
end Go


namespace Go.Rep
open Go.RowKit Go.Lim
section
variable {P : Program} {ops : Array Oper} {Q : Exit → Act → World → Prop} {a : Act} {w : World}
variable {α : Type} {R : Mem → Value → α → Prop} {sz : Nat} {X : Nat → Bool} {base : Nat} {e : TypeId} {ao : Option Addr} {cap : Nat} {l : List α}
theorem step_appendl {o : Oper} {K : Act → World → Prop} {E : Prop} {t by_ : Nat} {z : Value} {s x : Operand} {ax : Option Addr} {cs : Nat}
    (hg : o.guard = none) (hop : o.op = Op.call { callee := Callee.builtin Builtin.append, args := #[s, x], argTypes := #[t, t] }) (T : SliceT P t e sz by_ z) (hzs : z.cells.size = sz) (hR : Elem R sz) (hbase : base ≤ w.heap.size) (hX : ∀ k, X k = true → k < w.heap.size) (xs : List α) (n m : Nat) (hn : l.length = n) (hm : xs.length = m)
    (hs : a.eval s = .slice ao n cap) (hx : a.eval x = .slice ax m cs) (h : OL R sz X base e w ao cap l)
    (hxs : Sl R sz (mk (un X ao) w) ax xs) (hroom : (n + m) * by_ ≤ 140737488355328) (hmax : n + m ≤ 9223372036854775807)
    (hK : ∀ ao' cap' w', OL R sz X base e w' ao' cap' (l ++ xs) → ExtX (ob ao) w w' → (ao' = ao ∨ ∃ g, ao' = some ⟨g, 0, none⟩ ∧ w.heap.size ≤ g) → K (a.put o.dst (.slice ao' (n + m) cap')) w') :
    if Region.wanted o (yielded ops a.tmps) = true then Oper.wp P o a w K Q else E := by
  have hw : Region.wanted o (yielded ops a.tmps) = true := by simp [Region.wanted, hg]
  rw [if_pos hw]
  subst hn hm
  obtain ⟨us, h1, h2, h3⟩ := hxs.at_ hR
  obtain ⟨ao', cap', w', hr, h2, h3, h4⟩ := h.run_append (P := P) T hzs hR hbase hX ax cs us xs h2 h1 h3 hroom hmax o.type
  unfold Oper.wp execOp
  rw [hop]
  simp only [resolve, invoke, builtin, Sem.run_bind, Sem.run_pure, Result.andThen_ok, List.map_toArray, List.map_cons, List.map_nil, hs, hx]
  rw [hr]
  have := hK ao' cap' w' h2 h3 h4
  rw [show (l ++ xs).length = l.length + xs.length from by simp]
  exact this
end
end Go.Rep
namespace Go.Proofs.YthipmbmjodhiiaaGreat
open Go.RowKit Go.Rep Go.Lim Go.Lin
theorem infRatss : (Tryz.prog.info? 25).map (fun i => (i.zero, i.size, i.bytes)) = some (some (.slice none 0 0), 1, 24) := by kernel_rfl
theorem tyRatss : TyI Tryz.prog 25 1 := let ⟨i, h, _, h2, _⟩ := info_parts infRatss; ⟨i, h, h2⟩
/-- The digits of a witness. -/
def uB : Nat := 10000000000
/-- A depth and its witness. -/
def BestOut (X : Nat → Bool) (w : World) (c : Nat) (z : Mat) (e : Ending) (w' : World) : Prop := Ext w w' ∧ ∃ (cnt : Nat) (dv : Value) (us : Mat), e = .returned (.tuple #[.int .i64 (cnt : Int), dv]) ∧ MV (mk X w') dv us ∧ BM uB us ∧ (∀ r ∈ us, r.length = c) ∧ IsDep c (vecs z) cnt ∧ Wit c (vecs z) cnt (vecs us)
/-- What the search returns for n vectors. -/
def BestC (n : Nat) : Prop := ∀ (X : Nat → Bool) (w : World) (u : Value) (z : List (List Rat)) (c B : Nat), HX X w → MV (mk X w) u z → Shp n c z → n ≤ 64 → 1 ≤ c → c ≤ 3 → BM B z → 1 ≤ B → B ≤ 6500 →
    Calls Tryz.prog 58 #[u, .int .i64 (c : Int)] w (BestOut X w c z)
/-- Two boxes. -/
def twoB (bc bs : Nat) : Nat → Bool := fun k => (k == bc) || (k == bs)
/-- What is hidden beside X: the boxes that turn, and the blocks of Subsets. -/
def hidS (X : Nat → Bool) (bc bs B0 : Nat) : Nat → Bool := fun k => X k || twoB bc bs k || ownB B0 k
/-- Where the boxes lie. -/
structure Lay (lo bo bu bc bd bs B0 : Nat) : Prop where
  lo1 : lo ≤ bo
  lo2 : lo ≤ bu
  lo3 : lo ≤ bc
  lo4 : lo ≤ bd
  lo5 : lo ≤ bs
  hi1 : bo < B0
  hi2 : bu < B0
  hi3 : bc < B0
  hi4 : bd < B0
  hi5 : bs < B0
  ne1 : bo ≠ bc
  ne2 : bo ≠ bs
  ne3 : bu ≠ bc
  ne4 : bu ≠ bs
  ne5 : bd ≠ bc
  ne6 : bd ≠ bs
  ne7 : bc ≠ bs
structure BSt (X : Nat → Bool) (w0 : World) (bo bu bc bd bs B0 c : Nat) (oo : Option Addr) (n oc : Nat) (ov : Value) (z N : Mat) (cnt : Nat) (dv : Value) (us : Mat) (W : World) : Prop where
  ext : Ext w0 W
  b1 : Bx W bo #[.slice oo n oc] 25
  b2 : Bx W bu #[ov] 25
  b3 : Bx W bc #[.int .i64 (cnt : Int)] 3
  b4 : Bx W bd #[.int .i64 (c : Int)] 3
  b5 : Bx W bs #[dv] 25
  r1 : MV (mk (hidS X bc bs B0) W) (.slice oo n oc) z
  r2 : MV (mk (hidS X bc bs B0) W) ov N
  r3 : MV (mk (hidS X bc bs B0) W) dv us
section
variable {X : Nat → Bool} {w0 W W' : World} {bo bu bc bd bs B0 c : Nat} {oo : Option Addr} {n oc : Nat} {ov : Value} {z N : Mat} {cnt : Nat} {dv : Value} {us : Mat}
theorem BSt.hx (_h : BSt X w0 bo bu bc bd bs B0 c oo n oc ov z N cnt dv us W) (hX : HX X w0) (hl : Lay w0.heap.size bo bu bc bd bs B0) (hB : B0 + 6 ≤ W.heap.size) : HX (hidS X bc bs B0) W := fun k hk => by
  have h1 := hl.hi3
  have h2 := hl.hi5
  have h0 := hl.lo1
  have h00 := hl.hi1
  simp only [hidS, twoB, ownB, Bool.or_eq_true, Bool.and_eq_true, beq_iff_eq, decide_eq_true_eq] at hk
  rcases hk with (h | h | h) | h
  · have := hX k h; omega
  · omega
  · omega
  · omega
theorem BSt.hxs (h : BSt X w0 bo bu bc bd bs B0 c oo n oc ov z N cnt dv us W) (hX : HX X w0) : HX (fun k => X k || twoB bc bs k) W := fun k hk => by
  have h3 := h.b3.lt
  have h5 := h.b5.lt
  have h0 := h.ext.size
  simp only [twoB, Bool.or_eq_true, beq_iff_eq] at hk
  rcases hk with h | h | h
  · have := hX k h; omega
  · omega
  · omega
theorem BSt.step (h : BSt X w0 bo bu bc bd bs B0 c oo n oc ov z N cnt dv us W) (hE : Ext W W') : BSt X w0 bo bu bc bd bs B0 c oo n oc ov z N cnt dv us W' :=
  ⟨h.ext.trans hE, h.b1.ext0 hE, h.b2.ext0 hE, h.b3.ext0 hE, h.b4.ext0 hE, h.b5.ext0 hE, mkx MV.mono h.r1 hE, mkx MV.mono h.r2 hE, mkx MV.mono h.r3 hE⟩
theorem BSt.own (h : BSt X w0 bo bu bc bd bs B0 c oo n oc ov z N cnt dv us W) (hl : Lay w0.heap.size bo bu bc bd bs B0) (hE : ExtX (ownB B0) W W') : BSt X w0 bo bu bc bd bs B0 c oo n oc ov z N cnt dv us W' := by
  have no : ∀ j, j < B0 → ownB B0 j = false := fun j hj => by simp [ownB]; omega
  have hm := mk_mono (X := hidS X bc bs B0) hE fun k hk => by simp [hidS, hk]
  have := hl.lo1
  have := hl.hi1
  exact ⟨h.ext.then_ hE fun i hi _ => no i (by omega), h.b1.ext hE (no _ hl.hi1), h.b2.ext hE (no _ hl.hi2), h.b3.ext hE (no _ hl.hi3), h.b4.ext hE (no _ hl.hi4), h.b5.ext hE (no _ hl.hi5), MV.mono _ _ _ _ hm h.r1, MV.mono _ _ _ _ hm h.r2, MV.mono _ _ _ _ hm h.r3⟩
theorem BSt.put (h : BSt X w0 bo bu bc bd bs B0 c oo n oc ov z N cnt dv us W) (hl : Lay w0.heap.size bo bu bc bd bs B0) (cnt' : Nat) (dv' : Value) (us' : Mat) (hr : MV (_root_.Go.Rep.mk (hidS X bc bs B0) W) dv' us') :
    (W.setCell ⟨bc, 0, none⟩ (.int .i64 (cnt' : Int))).cell? ⟨bs, 0, none⟩ = some dv ∧ (W.setCell ⟨bc, 0, none⟩ (.int .i64 (cnt' : Int))).frozen? ⟨bs, 0, none⟩ = false ∧
    BSt X w0 bo bu bc bd bs B0 c oo n oc ov z N cnt' dv' us' ((W.setCell ⟨bc, 0, none⟩ (.int .i64 (cnt' : Int))).setCell ⟨bs, 0, none⟩ dv') ∧ ExtX (twoB bc bs) W ((W.setCell ⟨bc, 0, none⟩ (.int .i64 (cnt' : Int))).setCell ⟨bs, 0, none⟩ dv') := by
  obtain ⟨p1, p2⟩ := setCell_block h.b3 (.int .i64 (cnt' : Int)) (i := 0) (by simp)
  have p5 := h.b5.ext p2 (ob_other hl.ne7.symm)
  obtain ⟨q1, q2⟩ := setCell_block p5 dv' (i := 0) (by simp)
  have hE : ExtX (twoB bc bs) W ((W.setCell ⟨bc, 0, none⟩ (.int .i64 (cnt' : Int))).setCell ⟨bs, 0, none⟩ dv') := by
    refine (p2.weaken fun k _ hk => ?_).trans (q2.weaken fun k _ hk => ?_)
    · refine ob_other fun e => ?_
      subst e; simp [twoB] at hk
    · refine ob_other fun e => ?_
      subst e; simp [twoB] at hk
  have hm := mk_mono (X := hidS X bc bs B0) hE fun k hk => by simp [hidS, hk]
  have n1 : twoB bc bs bo = false := by simp [twoB, hl.ne1, hl.ne2]
  have n2 : twoB bc bs bu = false := by simp [twoB, hl.ne3, hl.ne4]
  have n3 : twoB bc bs bd = false := by simp [twoB, hl.ne5, hl.ne6]
  have hlo3 := hl.lo3
  have hlo5 := hl.lo5
  refine ⟨p5.cell 0 rfl, p5.frozen 0, ⟨h.ext.then_ hE fun i hi _ => ?_, h.b1.ext hE n1, h.b2.ext hE n2, ?_, h.b4.ext hE n3, by simpa using q1, MV.mono _ _ _ _ hm h.r1, MV.mono _ _ _ _ hm h.r2, MV.mono _ _ _ _ hm hr⟩, hE⟩
  · simp [twoB]; omega
  · have := p1.ext q2 (ob_other hl.ne7)
    simpa using this
end
/-- What the search's callback keeps. -/
def BInv (X : Nat → Bool) (w0 : World) (bo bu bc bd bs B0 c : Nat) (oo : Option Addr) (n oc : Nat) (ov : Value) (z N : Mat) (done : List (List Int)) (W : World) : Prop :=
  ∃ (cnt : Nat) (dv : Value) (us : Mat), BSt X w0 bo bu bc bd bs B0 c oo n oc ov z N cnt dv us W ∧ Sofar c z cnt us ∧ BM uB us ∧ (∀ r ∈ us, r.length = c) ∧ ∀ s ∈ done, Tried c (vecs z) (vecs N) cnt (s.map Int.toNat)
theorem BInv.own {X : Nat → Bool} {w0 W W' : World} {bo bu bc bd bs B0 c : Nat} {oo : Option Addr} {n oc : Nat} {ov : Value} {z N : Mat} {done : List (List Int)} (h : BInv X w0 bo bu bc bd bs B0 c oo n oc ov z N done W) (hl : Lay w0.heap.size bo bu bc bd bs B0) (hE : ExtX (ownB B0) W W') : BInv X w0 bo bu bc bd bs B0 c oo n oc ov z N done W' := by
  obtain ⟨cnt, dv, us, h1, h2⟩ := h
  exact ⟨cnt, dv, us, h1.own hl hE, h2⟩
theorem keep_ext {B0 : Nat} {Y : Nat → Bool} {W W' : World} (hE : ExtX Y W W') (hY : ∀ k, Y k = true → ownB B0 k = false) (hB : B0 + 6 ≤ W.heap.size) : Keep B0 W W' := ⟨hE.size, fun k hk => hE.block k (by simp [ownB] at hk; omega) (by
  cases h : Y k
  · rfl
  · rw [hY k h] at hk; simp at hk)⟩
theorem Keep.trans {B0 : Nat} {A B C : World} (h : Keep B0 A B) (k : Keep B0 B C) : Keep B0 A C := ⟨Nat.le_trans h.1 k.1, fun i hi => (k.2 i hi).trans (h.2 i hi)⟩
end Go.Proofs.YthipmbmjodhiiaaGreat


namespace Go.Lin
open Go.Lim Go.Rep Go.Proofs.YthipmbmjodhiiaaGreat
theorem formedB_of {n c : Nat} {m : Mat} (hs : Shp n c m) (hn : n ≤ 96) (hc : 1 ≤ c) (hc2 : c ≤ 96) (h0 : 0 < n) : formedB m = true ∧ colsL m = c := by
  have hcol : colsL m = c := by
    unfold colsL
    rw [List.getD_eq_getElem?_getD, List.getElem?_eq_getElem (by rw [hs.1]; exact h0)]
    exact hs.2 _ (List.getElem_mem _)
  refine ⟨formedB_true.2 ⟨by rw [hs.1]; exact hn, fun i hi => ?_⟩, hcol⟩
  rw [hcol, hs.2 _ (List.getElem_mem _)]
  exact ⟨hc, hc2, rfl⟩
end Go.Lin
namespace Go.Proofs.YthipmbmjodhiiaaGreat
open Go.RowKit Go.Rep Go.Lim Go.Lin
/-- A literal of one rational number. -/
theorem lit_rat1 (X : Nat → Bool) (w : World) (s : Bool) (a : Option Addr) (n c : Nat) (d : Option Addr) (k e : Nat) (x : Rat) (t : TypeId) (hX : HX X w) (h : QC (mk X w) (.agg #[.bool s, .slice a n c, .slice d k e]) x) :
    OL QC 3 X w.heap.size t (w.alloc (.cells #[.bool s, .slice a n c, .slice d k e] t)) (some ⟨w.heap.size, 0, none⟩) 1 [x] :=
  OL.lit QC.elem hX (Nat.le_refl _) [.agg #[.bool s, .slice a n c, .slice d k e]] [x] _ (by simp [cellsL, Value.cells]) rfl (fun i hi _ => by
    have : i = 0 := by simpa using hi
    subst this; exact h) (by simp)
theorem BM.sub {B : Nat} {m l : List (List Rat)} (h : BM B m) (hs : ∀ r ∈ l, r ∈ m) : BM B l := fun r hr => h r (hs r hr)

end Go.Proofs.YthipmbmjodhiiaaGreat


namespace Go.Proofs.YthipmbmjodhiiaaGreat
open Go.RowKit Go.Rep Go.Lim

/-- A number in a slice of digits. -/
def NumR : Mem → Value → Nat → Prop := fun h u n => ∃ ao cap l, u = .slice ao l.length cap ∧ l.length ≤ cap ∧ Canon l n ∧ Sl (NatIn .u32) 1 h ao l
theorem NumR.mono : Mono NumR := by
  rintro h h' u x hl ⟨ao, cap, l, rfl, h1, h2, h3⟩
  exact ⟨ao, cap, l, rfl, h1, h2, h3.mono (NatIn.mono _) hl⟩
theorem NumR.one : OneCell NumR := by rintro h u x ⟨ao, cap, l, rfl, _⟩; rfl
theorem NumR.elem : Elem NumR 1 := ⟨NumR.mono, by rintro h u x ⟨ao, cap, l, rfl, _⟩; rfl, by rintro h u x ⟨ao, cap, l, rfl, _⟩ c hc; simp [cellsL, Value.cells] at hc; subst hc; rfl, Nat.one_pos⟩
theorem NumR.zero (h : Mem) : NumR h (.slice none 0 0) 0 := ⟨none, 0, [], rfl, by simp, Canon.nil, Sl.nil _ _ _ _⟩

end Go.Proofs.YthipmbmjodhiiaaGreat


namespace Go.Proofs.YthipmbmjodhiiaaGreat
open Go.RowKit Go.Rep Go.Lim

end Go.Proofs.YthipmbmjodhiiaaGreat


namespace Go.Proofs.YthipmbmjodhiiaaGreat
open Go.RowKit Go.Rep Go.Lim

/-- The tape's own block. -/
def tbm (tb : Nat) : Nat → Bool := fun k => k == tb
theorem tbm_self (tb : Nat) : tbm tb tb = true := by simp [tbm]
theorem tbm_ne {tb k : Nat} (h : k ≠ tb) : tbm tb k = false := by simpa [tbm] using h
/-- A tape lies in block tb. -/
def TapeR (X : Nat → Bool) (tb : Nat) (w : World) : Prop :=
  X tb = true ∧ ∃ (lo : Option Addr) (l : List Int) (cap at_ : Nat), w.heap[tb]? = some (.cells #[.slice lo l.length cap, .int .i64 (at_ : Int)] 68 (0, 0)) ∧ l.length ≤ 400 ∧ at_ ≤ l.length ∧ Sl (IntIn .i64) 1 (mk X w) lo l
theorem tbm_sub {X : Nat → Bool} {tb : Nat} (h : X tb = true) : ∀ k, tbm tb k = true → X k = true := fun k hk => by
  have : k = tb := by simpa [tbm] using hk
  rw [this]; exact h
theorem TapeR.lt {X : Nat → Bool} {tb : Nat} {w : World} (h : TapeR X tb w) : tb < w.heap.size := by
  obtain ⟨_, lo, l, cap, at_, h1, _⟩ := h
  by_cases hl : tb < w.heap.size
  · exact hl
  · rw [Array.getElem?_eq_none (by omega)] at h1; simp at h1
theorem TapeR.ext {X : Nat → Bool} {tb : Nat} {w w' : World} (h : TapeR X tb w) (hE : Ext w w') : TapeR X tb w' := by
  have hlt := h.lt
  obtain ⟨hX, lo, l, cap, at_, h1, h2, h3, h4⟩ := h
  exact ⟨hX, lo, l, cap, at_, by rw [hE.block tb hlt rfl]; exact h1, h2, h3, h4.mono (IntIn.mono _) (mk_ext hE)⟩
theorem TapeR.extY {X Y : Nat → Bool} {tb : Nat} {w w' : World} (h : TapeR X tb w) (hE : ExtX Y w w') (hY : ∀ k, Y k = true → X k = true) (ht : Y tb = false) : TapeR X tb w' := by
  have hlt := h.lt
  obtain ⟨hX, lo, l, cap, at_, h1, h2, h3, h4⟩ := h
  exact ⟨hX, lo, l, cap, at_, by rw [hE.block tb hlt ht]; exact h1, h2, h3, h4.mono (IntIn.mono _) (mk_mono hE hY)⟩

/-- A number from 0 to n - 1 is drawn, 0 if n is less than 1. -/
def NextOut (X : Nat → Bool) (tb : Nat) (w : World) (n : Int) (e : Ending) (w' : World) : Prop :=
  ExtX (tbm tb) w w' ∧ TapeR X tb w' ∧ ∃ m : Nat, e = .returned (.int .i64 (m : Int)) ∧ ((m : Int) < n ∨ m = 0)

theorem tmod_any (v n : Int) (w : World) (h1 : 1 ≤ n) (h2 : n ≤ 1099511627776) :
    Calls Tryz.prog 66 #[.int .i64 v, .int .i64 n] w (fun e w' => e = .returned (.int .i64 (v % n)) ∧ w' = w) := by
  have hn0 : (n == 0) = false := beqF (by omega)
  have hlo : -n < v.tmod n := Int.lt_tmod_of_pos v (by omega)
  have hhi : v.tmod n < n := Int.tmod_lt_of_pos v (by omega)
  have hem : (v.tmod n < 0 → v.tmod n + n = v % n) ∧ (0 ≤ v.tmod n → v.tmod n = v % n) := by
    have h := Int.tmod_eq_emod (a := v) (b := n)
    have e0 := Int.emod_nonneg v (show n ≠ 0 by omega)
    have e1 := Int.emod_lt_of_pos v (show 0 < n by omega)
    split at h <;> omega
  have hem' := hid hem
  clear hem
  go_enter Tryz.func66, Tryz.ntmps66
  go_wp2_with fail
  · go_ret
    exact ⟨ret_int (hem'.out.1 (by assumption)), rfl⟩
  · go_ret
    exact ⟨ret_int (hem'.out.2 (by assumption)), rfl⟩

theorem TapeR.cells {X : Nat → Bool} {tb : Nat} {w : World} (h : TapeR X tb w) : ∃ (lo : Option Addr) (l : List Int) (cap at_ : Nat), w.cell? ⟨tb, 0, none⟩ = some (.slice lo l.length cap) ∧ w.cell? ⟨tb, 1, none⟩ = some (.int .i64 (at_ : Int)) ∧ w.frozen? ⟨tb, 1, none⟩ = false ∧ l.length ≤ 400 ∧ at_ ≤ l.length ∧ Sl (IntIn .i64) 1 (mk X w) lo l ∧
    ∀ at' : Nat, at' ≤ l.length → TapeR X tb (w.setCell ⟨tb, 1, none⟩ (.int .i64 (at' : Int))) ∧ ExtX (tbm tb) w (w.setCell ⟨tb, 1, none⟩ (.int .i64 (at' : Int))) ∧
      (w.setCell ⟨tb, 1, none⟩ (.int .i64 (at' : Int))).cell? ⟨tb, 0, none⟩ = some (.slice lo l.length cap) ∧ (w.setCell ⟨tb, 1, none⟩ (.int .i64 (at' : Int))).cell? ⟨tb, 1, none⟩ = some (.int .i64 (at' : Int)) := by
  have hlt := h.lt
  obtain ⟨hX, lo, l, cap, at_, h1, h2, h3, h4⟩ := h
  refine ⟨lo, l, cap, at_, by simp [World.cell?, h1], by simp [World.cell?, h1], by simp [World.frozen?, h1], h2, h3, h4, fun at' ha => ?_⟩
  have hE : ExtX (tbm tb) w (w.setCell ⟨tb, 1, none⟩ (.int .i64 (at' : Int))) :=
    ⟨rfl, rfl, rfl, by simp [World.setCell], fun k hk hy => Below.heap_setCell _ _ _ _ (fun e => by subst e; simp [tbm] at hy)⟩
  have hn : (w.setCell ⟨tb, 1, none⟩ (.int .i64 (at' : Int))).heap[tb]? = some (.cells #[.slice lo l.length cap, .int .i64 (at' : Int)] 68 (0, 0)) := by
    simp only [World.setCell, Array.getElem?_modify, h1]
    simp
  exact ⟨⟨hX, lo, l, cap, at', hn, h2, ha, h4.mono (IntIn.mono _) (mk_mono hE (tbm_sub hX))⟩, hE, by unfold World.cell?; rw [hn]; rfl, by unfold World.cell?; rw [hn]; rfl⟩

theorem TapeR.drewN {X : Nat → Bool} {tb : Nat} {w : World} (h : TapeR X tb w) (n : Nat) : TapeR X tb (w.drewN n) := h

set_option maxHeartbeats 800000 in
theorem next_any (X : Nat → Bool) (tb : Nat) (n : Int) (w : World) (ht : TapeR X tb w) (hn : n ≤ 1099511627776) :
    Calls Tryz.prog 31 #[.pointer (some ⟨tb, 0, none⟩), .int .i64 n] w (NextOut X tb w n) := by
  obtain ⟨lo, l, cap, at_, c0, c1, f1, hl, hat, hs, hset⟩ := ht.cells
  have hh := hs.hd
  by_cases h1 : n < 1
  · have hd : decide (n < 1) = true := decide_eq_true h1
    go_enter Tryz.func31, Tryz.ntmps31
    go_wp2_with fail
    go_quiet (fail)
    go_wp2_with fail
    go_ret
    exact ⟨(ExtX.refl _).drewN _, ht.drewN _, 0, rfl, .inr rfl⟩
  have hd : decide (n < 1) = false := decide_eq_false h1
  by_cases h2 : at_ < l.length
  · obtain ⟨ht2, hE2, k0, k1⟩ := hset (at_ + 1) (by omega)
    have hs2 := (hs.mono (IntIn.mono _) (mk_mono hE2 (tbm_sub ht.1))).int at_ h2
    obtain ⟨x, hx⟩ : ∃ x, l[at_] = x := ⟨_, rfl⟩
    rw [hx] at hs2
    clear hx hset
    have e1 : ((at_ + 1 : Nat) : Int) = (at_ : Int) + 1 := by omega
    rw [e1] at k0 k1 hs2 ht2 hE2
    have kk0 : ∀ N, ((w.drewN N).setCell ⟨tb, 1, none⟩ (.int .i64 ((at_ : Int) + 1))).cell? ⟨tb, 0, none⟩ = some (.slice lo l.length cap) := fun _ => k0
    have kk1 : ∀ N, ((w.drewN N).setCell ⟨tb, 1, none⟩ (.int .i64 ((at_ : Int) + 1))).cell? ⟨tb, 1, none⟩ = some (.int .i64 ((at_ : Int) + 1)) := fun _ => k1
    have kk2 : ∀ N, ((w.drewN N).setCell ⟨tb, 1, none⟩ (.int .i64 ((at_ : Int) + 1))).cell? (adr lo at_) = some (.int .i64 x) := fun _ => hs2
    have ew : IntKind.i64.wrap ((at_ : Int) + 1 - 1) = (at_ : Int) := by rw [IntWalk.i64_in _ (by omega)]; omega
    have ht3 : ∀ N, TapeR X tb ((w.drewN N).setCell ⟨tb, 1, none⟩ (.int .i64 ((at_ : Int) + 1))) := fun _ => ht2
    have hE3 : ∀ N, ExtX (tbm tb) w ((w.drewN N).setCell ⟨tb, 1, none⟩ (.int .i64 ((at_ : Int) + 1))) := fun _ => ⟨hE2.os, hE2.tape, hE2.output, hE2.size, hE2.block⟩
    have ht4 := hid ht3
    have hE4 := hid hE3
    clear e1 ht2 hE2 k0 k1 ht3 hE3
    have hd2 : decide ((l.length : Int) ≤ (at_ : Int)) = false := decide_eq_false (by omega)
    have i1 : ∀ W, (Instr.indexAt 22 (.slice lo l.length cap) (.int .i64 (at_ : Int))).run Tryz.prog W = .ok (.pointer (some (adr lo at_))) W := run_ix1 slInt lo l.length cap .i64 at_ hh h2 rfl
    go_enter Tryz.func31, Tryz.ntmps31
    go_wp2_with fail
    go_quiet (fail)
    go_wp2_with fail
    have hm0 := Int.emod_nonneg x (show n ≠ 0 by omega)
    have hm1 := Int.emod_lt_of_pos x (show 0 < n by omega)
    obtain ⟨m, hm⟩ := Int.eq_ofNat_of_zero_le hm0
    have hm' := hid hm
    have hm2 : Hid ((m : Int) < n) := hid (by rw [← hm]; exact hm1)
    clear hm hm0 hm1
    go_quiet ((go_at_call 66; exact Calls.quiet_of_same (tmod_any x n _ (by omega) (by omega))))
    go_wp2_with fail
    go_ret
    exact ⟨(hE4.out _).drewN _, (ht4.out _).drewN _, m, ret_int hm'.out, .inl hm2.out⟩
  · have hd2 : decide ((l.length : Int) ≤ (at_ : Int)) = true := decide_eq_true (by omega)
    go_enter Tryz.func31, Tryz.ntmps31
    go_wp2_with fail
    go_quiet (fail)
    go_wp2_with fail
    go_ret
    exact ⟨(ExtX.refl _).drewN _, ht.drewN _, 0, rfl, .inr rfl⟩
end Go.Proofs.YthipmbmjodhiiaaGreat


namespace Go.Proofs.YthipmbmjodhiiaaGreat
open Go.RowKit Go.Rep Go.Lim

/-- A bool is drawn. -/
def TBoolOut (X : Nat → Bool) (tb : Nat) (w : World) (e : Ending) (w' : World) : Prop := ExtX (tbm tb) w w' ∧ TapeR X tb w' ∧ ∃ b : Bool, e = .returned (.bool b)
/-- An int from lo to hi is drawn. -/
def TIntOut (X : Nat → Bool) (tb : Nat) (w : World) (lo hi : Int) (e : Ending) (w' : World) : Prop := ExtX (tbm tb) w w' ∧ TapeR X tb w' ∧ ∃ m : Int, e = .returned (.int .i64 m) ∧ lo ≤ m ∧ m ≤ hi

theorem tbool_any (X : Nat → Bool) (tb : Nat) (n : Int) (w : World) (ht : TapeR X tb w) (h1 : -1000 ≤ n) (hn : n ≤ 1099511627776) :
    Calls Tryz.prog 46 #[.pointer (some ⟨tb, 0, none⟩), .int .i64 n] w (TBoolOut X tb w) := by
  go_enter Tryz.func46, Tryz.ntmps46
  go_wp2_with fail
  refine (next_any X tb n _ ht hn).mono ?_
  rintro e w1 ⟨hE, ht1, m, rfl, hm⟩
  go_wp2_with fail
  go_ret
  exact ⟨hE, ht1, _, rfl⟩

theorem pick_any (X : Nat → Bool) (tb : Nat) (lo : Option Addr) (l : List Int) (cap : Nat) (w : World) (a b : Int) (ht : TapeR X tb w) (hs : Sl (IntIn .i64) 1 (mk X w) lo l) (h0 : 0 < l.length) (hl : l.length ≤ 1000) (hab : Hid (∀ x ∈ l, a ≤ x ∧ x ≤ b)) :
    Calls Tryz.prog 60 #[.pointer (some ⟨tb, 0, none⟩), .slice lo l.length cap] w (TIntOut X tb w a b) := by
  have hh := hs.hd
  go_enter Tryz.func60, Tryz.ntmps60
  go_wp2_with fail
  refine (next_any X tb _ _ ht (by omega)).mono ?_
  rintro e w1 ⟨hE, ht1, m, rfl, hm⟩
  have hml : m < l.length := by omega
  have hc := (hs.mono (IntIn.mono _) (mk_mono hE (tbm_sub ht.1))).int m hml
  have hr := hab.out l[m] (List.getElem_mem hml)
  obtain ⟨x, hx⟩ : ∃ x, l[m] = x := ⟨_, rfl⟩
  rw [hx] at hc hr
  clear hx
  go_wp2_with (with_reducible refine up_ix1 slInt (by omega) (by assumption) ?_)
  go_ret
  exact ⟨hE, ht1, x, rfl, hr.1, hr.2⟩

theorem tnew_any (lo : Option Addr) (l : List Int) (cap : Nat) (w : World) (hs : Sl (IntIn .i64) 1 w.cell? lo l) (hl : l.length ≤ cap) (hb : l.length ≤ 9223372036854775807) :
    Calls Tryz.prog 14 #[.slice lo l.length cap] w (fun e w' => e = .returned (.pointer (some ⟨w.heap.size, 0, none⟩)) ∧ Ext w w' ∧ TapeR (tbm w.heap.size) w.heap.size w' ∧ w'.heap.size = w.heap.size + 1) := by
  have key : ∀ (l : List Int), l.length ≤ 400 → Sl (IntIn .i64) 1 w.cell? lo l → TapeR (tbm w.heap.size) w.heap.size (w.alloc (.cells #[.slice lo l.length cap, .int .i64 0] 68)) := by
    intro l hl hs
    refine ⟨tbm_self _, lo, l, cap, 0, heap_alloc_new w _, hl, Nat.zero_le _, ?_⟩
    rw [← mk_noY] at hs
    refine hs.mono (IntIn.mono _) (mk_over ((ExtX.refl (Y := noY) w).alloc _) (fun k _ hk => by simp [noY] at hk) fun k hk hz => ?_)
    have : k = w.heap.size := by simpa [tbm] using hz
    omega
  have hE : ∀ u v, Ext w (w.alloc (.cells #[u, v] 68)) := fun u v => (ExtX.refl w).alloc _
  by_cases h4 : 400 < l.length
  · have ht := hid (key (l.take 400) (by simp; omega) (hs.take 400))
    have hlen : (l.take 400).length = 400 := by simp; omega
    rw [hlen] at ht
    clear key hlen
    go_enter Tryz.func14, Tryz.ntmps14
    go_wp2_with fail
    go_ret
    exact ⟨rfl, hE _ _, ht.out, by simp⟩
  · have ht := hid (key l (by omega) hs)
    clear key
    go_enter Tryz.func14, Tryz.ntmps14
    go_wp2_with fail
    go_ret
    exact ⟨rfl, hE _ _, ht.out, by simp⟩

theorem lit_cells (l : List Int) : (l.map (Value.int .i64)).flatMap cellsL = l.map (Value.int .i64) := by
  induction l with
  | nil => rfl
  | cons x l ih => simp only [List.map_cons, List.flatMap_cons, ih]; rfl

theorem lit_sl (X : Nat → Bool) (w : World) (l : List Int) (e : TypeId) (arr : Array Value) (harr : arr = (l.map (Value.int .i64)).toArray) (hX : ∀ k, X k = true → k < w.heap.size) (hl : l.length ≤ 1000) :
    OL (IntIn .i64) 1 X w.heap.size e (w.alloc (.cells arr e)) (some ⟨w.heap.size, 0, none⟩) l.length l := by
  refine OL.lit (IntIn.elem .i64) hX (Nat.le_refl _) (l.map (Value.int .i64)) l arr ?_ (by simp) (fun i hi hi' => by simp [IntIn]) (by omega)
  rw [harr, lit_cells]

theorem lit_pick (X : Nat → Bool) (tb : Nat) (l : List Int) (arr : Array Value) (e : TypeId) (len : Nat) (w : World) (a b : Int) (ht : TapeR X tb w) (hX : ∀ k, X k = true → k < w.heap.size) (harr : arr = (l.map (Value.int .i64)).toArray) (hlen : len = l.length) (h0 : 0 < l.length) (hl : l.length ≤ 1000) (hab : Hid (∀ x ∈ l, a ≤ x ∧ x ≤ b)) :
    Calls Tryz.prog 60 #[.pointer (some ⟨tb, 0, none⟩), .slice (some ⟨w.heap.size, 0, none⟩) len len] (w.alloc (.cells arr e)) (TIntOut X tb w a b) := by
  subst hlen
  have hE : Ext w (w.alloc (.cells arr e)) := (ExtX.refl w).alloc _
  refine (pick_any X tb _ l _ _ a b (ht.ext hE) (OL.sl (IntIn.elem .i64) (lit_sl X w l e arr harr hX hl)) h0 hl hab).mono ?_
  rintro e' w' ⟨hE', ht', r⟩
  exact ⟨(ExtX.of hE).trans hE', ht', r⟩

end Go.Proofs.YthipmbmjodhiiaaGreat


namespace Go.Proofs.YthipmbmjodhiiaaGreat
open Go.RowKit Go.Rep Go.Lim

theorem TapeR.unstep {X : Nat → Bool} {tb : Nat} {w w' : World} {oo oo' : Option Addr} (h : TapeR (un X oo) tb w) (hb : ob oo tb = false) (hE : ExtX (ob oo) w w') (ho : oo' = oo ∨ ∃ g, oo' = some ⟨g, 0, none⟩ ∧ w.heap.size ≤ g) : TapeR (un X oo') tb w' := by
  have hlt := h.lt
  obtain ⟨hX, lo, l, cap, at_, h1, h2, h3, h4⟩ := h
  refine ⟨?_, lo, l, cap, at_, by rw [hE.block tb hlt hb]; exact h1, h2, h3, h4.unstep (IntIn.mono _) hE ho⟩
  have : X tb = true := by simpa [un, hb] using hX
  exact un_left this
theorem TapeR.unX {X : Nat → Bool} {tb : Nat} {w : World} {oo : Option Addr} (h : TapeR (un X oo) tb w) (hX : X tb = true) : TapeR X tb w := by
  obtain ⟨_, lo, l, cap, at_, h1, h2, h3, h4⟩ := h
  exact ⟨hX, lo, l, cap, at_, h1, h2, h3, h4.unX (IntIn.mono _)⟩
theorem un_none (X : Nat → Bool) : un X none = X := by funext k; simp [un, ob]
theorem TapeR.none {X : Nat → Bool} {tb : Nat} {w : World} (h : TapeR X tb w) : TapeR (un X none) tb w := by rw [un_none]; exact h
/-- The tape from before an owned list was made. -/
theorem TapeR.old {X : Nat → Bool} {tb : Nat} {w w' : World} {oo : Option Addr} (h : TapeR X tb w) (hE : Ext w w') (hb : ∀ j, j < w.heap.size → ob oo j = false) : TapeR (un X oo) tb w' := by
  have hlt := h.lt
  obtain ⟨hX, lo, l, cap, at_, h1, h2, h3, h4⟩ := h
  exact ⟨un_left hX, lo, l, cap, at_, by rw [hE.block tb hlt rfl]; exact h1, h2, h3, h4.old (IntIn.mono _) hE hb⟩
theorem _root_.Go.Rep.OL.not_ob {α : Type} {R : Mem → Value → α → Prop} {sz base cap : Nat} {e : TypeId} {ao : Option Addr} {l : List α} {X : Nat → Bool} {w : World} (ho : OL R sz X base e w ao cap l) {k : Nat} (hk : X k = true) : ob ao k = false := by
  have h : ∀ k, ob ao k = true → X k = false := ho.1
  cases hh : ob ao k
  · rfl
  · rw [h k hh] at hk; simp at hk

theorem ob_new (w : World) : ∀ j, j < w.heap.size → ob (some ⟨w.heap.size, 0, none⟩) j = false := fun j hj => by
  cases hh : ob (some ⟨w.heap.size, 0, none⟩) j
  · rfl
  · have : w.heap.size = j := by simpa [ob] using hh
    omega

end Go.Proofs.YthipmbmjodhiiaaGreat


namespace Go.Lin
open Go.Lim Go.Rep
theorem sgL_get {s : Int} {L : List Rat} {j : Nat} (hj : j < L.length) (h : j < (sgL s L).length) : (sgL s L)[j] = (s : Rat) * L[j] := by simp [sgL]
/-- What one direction leaves. -/
theorem bd_more {c n : Nat} {z : Mat} {U : List Rat} {l : Nat} (hl : IsDep c (vecs (onM c U z)) l) (h : n ≤ posM c U z + l) : Bd c z n (vec U) := fun m hm => by
  rw [onM_vecs] at hl
  have := hm.uniq hl
  rw [← posM_vecs]; omega
end Go.Lin
namespace Go.Proofs.YthipmbmjodhiiaaGreat
open Go.RowKit Go.Rep Go.Lim Go.Lin
theorem lit_row1 (X : Nat → Bool) (w : World) (ao : Option Addr) (n cap : Nat) (l : List Rat) (e : TypeId) (hX : ∀ k, X k = true → k < w.heap.size) (h : RV (mk X w) (.slice ao n cap) l) :
    OL RV 1 X w.heap.size e (w.alloc (.cells #[.slice ao n cap] e)) (some ⟨w.heap.size, 0, none⟩) 1 [l] :=
  OL.lit RV.elem hX (Nat.le_refl _) [.slice ao n cap] [l] _ (by simp [cellsL, Value.cells]) rfl (fun i hi _ => by
    have : i = 0 := by simpa using hi
    subst this; exact h) (by simp)

set_option maxRecDepth 100000 in
set_option maxHeartbeats 6400000 in
theorem try_any (X : Nat → Bool) (w0 : World) (bo bu bc bd bs B0 n c B : Nat) (oo : Option Addr) (oc : Nat) (ov : Value) (z N : List (List Rat)) (done : List (List Int)) (s : List Int) (W : World)
    (ih : ∀ m, m < n → BestC m) (hs : Shp n c z) (hn : n ≤ 64) (hc2 : 2 ≤ c) (hc3 : c ≤ 3) (hzB : BM B z) (hB1 : 1 ≤ B) (hB : B ≤ 6500) (hnz : ∀ v ∈ vecs z, nz c v) (hne : z ≠ []) (hN : N = nullM z c) (hr : (redP z c).2.length = s.length + 1)
    (hl : Lay w0.heap.size bo bu bc bd bs B0) (hX : HX X w0) (hi : BInv X w0 bo bu bc bd bs B0 c oo n oc ov z N done W) (hsb : ∀ x ∈ s, 0 ≤ x ∧ x < (z.length : Int)) (hsl : Sl (IntIn .i64) 1 W.cell? (some ⟨B0 + 3, 0, none⟩) s) (hB0 : B0 + 6 ≤ W.heap.size) :
    Calls Tryz.prog 92 #[.slice (some ⟨B0 + 3, 0, none⟩) s.length s.length, .pointer (some ⟨bo, 0, none⟩), .pointer (some ⟨bu, 0, none⟩), .pointer (some ⟨bc, 0, none⟩), .pointer (some ⟨bd, 0, none⟩), .pointer (some ⟨bs, 0, none⟩)] W
      (fun e W' => e = .returned (.tuple #[]) ∧ BInv X w0 bo bu bc bd bs B0 c oo n oc ov z N (done ++ [s]) W' ∧ Keep B0 W W') := by
  obtain ⟨cnt, dv, us, hst, hSo, hUB, hUl, hTr⟩ := hi
  have hzl : z.length = n := hs.1
  have hpc := piv_le_cols hs
  obtain ⟨H, hH⟩ : ∃ H, hidS X bc bs B0 = H := ⟨_, rfl⟩
  have hXH : HX H W := hH ▸ hst.hx hX hl hB0
  have hz0 := hst.r1
  have hN0 := hst.r2
  rw [hH] at hz0 hN0
  obtain ⟨na, nc0, rfl, hnc0, hnS⟩ := hN0
  -- the matrix of a choice
  obtain ⟨hT, hNB, hMlen⟩ := search_inner hs (bm_hb hzB hB1) hB hc3 hsb hr.symm
  rw [← hN] at hT hNB hMlen
  have hNrow : ∀ r ∈ N, r.length = c := fun r hr => by rw [hN] at hr; exact nullM_row r hr
  have hMs := rows_shp hs hsb N hNrow
  obtain ⟨hMf, hMc⟩ := formedB_of hMs (by omega) (by omega) (by omega) (by omega)
  have hno := hid (fun (h : (nullM (rowsL z s ++ N) c).length ≠ 1) cnt => (by
    have := tried_none hs (cnt := cnt) hsb (by rw [hN] at h; exact h)
    rwa [← hN] at this : Tried c (vecs z) (vecs N) cnt (s.map Int.toNat)))
  have hyes := hid (fun (h : (nullM (rowsL z s ++ N) c).length = 1) L (hL : (nullM (rowsL z s ++ N) c)[0]? = some L) => (by
    subst hN
    have hL := (List.getElem?_eq_some_iff.1 hL).2
    obtain ⟨h1, h2, h3⟩ := null_one hs hsb h L hL
    have h4 : BR (1500625 * B) L := by rw [← hL]; exact hb_bm hNB _ (List.getElem_mem _)
    exact ⟨h1, h2, ort_out h3, h4, fun cnt a b => tried_two h2 h3 a b⟩ :
    L.length = c ∧ nz c (vec L) ∧ Ort c (vecs N) (vec L) ∧ BR (1500625 * B) L ∧ ∀ cnt, Bd c z cnt (vec (sgL 1 L)) → Bd c z cnt (vec (sgL (-1) L)) → Tried c (vecs z) (vecs N) cnt (s.map Int.toNat)))
  obtain ⟨NN, hNN⟩ : ∃ NN, nullM (rowsL z s ++ N) c = NN := ⟨_, rfl⟩
  obtain ⟨k3, hk3⟩ : ∃ k3, NN.length = k3 := ⟨_, rfl⟩
  have hnull := hid (fun w' um (hX' : HX H w') (hm : MV (mk H w') um (rowsL z s ++ N)) => ((null_ok H w' um (rowsL z s ++ N) _ c hX' hm hMf rfl hMc hT).mono (fun e w'' ⟨h1, u, h2, ao, ca, h3, h4, h5⟩ => ⟨h1, ao, ca, by
    rw [h2, h3, ← hk3, ← hNN]; rfl, by rw [← hk3, ← hNN]; exact h4, by rw [← hNN]; exact h5⟩) : Calls Tryz.prog 91 #[um] w' (fun e w'' => Ext w' w'' ∧ ∃ (ao : Option Addr) (ca : Nat), e = .returned (.tuple #[.slice ao k3 ca, .int .i64 0]) ∧ k3 ≤ ca ∧ Sl RC 1 (mk H w'') ao NN)))
  rw [hNN] at hno hyes
  have hk3' := hid hk3
  have hrl : Hid ((rowsL z s).length = s.length) := hid (rowsL_len z s)
  have hro := hid (fun (w' : World) (hX' : HX H w') (hm : MV (mk H w') (.slice oo n oc) z) (h : Sl (IntIn .i64) 1 w'.cell? (some ⟨B0 + 3, 0, none⟩) s) => erows_any H w' (.slice oo n oc) z (some ⟨B0 + 3, 0, none⟩) s s.length hX' hm h hsb (by omega))
  have hless := hid (fun (U : List Rat) (h1 : nz c (vec U)) (h2 : Ort c (vecs N) (vec U)) => (by
    have := on_less hs hnz hne h1 (by rw [← hN]; exact h2)
    rw [hzl] at this; exact this : (onM c U z).length < n))
  have hmore := hid (fun (U : List Rat) (l0 : Nat) (us2 : Mat) (h1 : nz c (vec U)) (h2 : Ort c (vecs N) (vec U)) (h3 : onM c U z ≠ []) (h4 : Wit c (vecs (onM c U z)) l0 (vecs us2)) (h5 : IsDep c (vecs (onM c U z)) l0) => (st_more hs hnz hne h1 (by rw [← hN]; exact h2) h3 h4 h5).1)
  have hs2 : s.length ≤ 2 := by omega
  have hNl : N.length ≤ 3 := by rw [List.length_append] at hMlen; omega
  have hsh' := hid hs
  have hzB' := hid hzB
  have ih' := hid ih
  have hSo' := hid (⟨hSo, hUB, hUl, hTr⟩ : Sofar c z cnt us ∧ BM uB us ∧ (∀ r ∈ us, r.length = c) ∧ ∀ s ∈ done, Tried c (vecs z) (vecs N) cnt (s.map Int.toNat))
  have hzl' := hid hzl
  have hcl := hSo.le
  rw [hzl] at hcl
  -- the boxes
  have q1 := hst.b1
  have q2 := hst.b2
  have hS : Hid (∀ Y W', ExtX Y W.drew W' → Y bo = false → Y bu = false → W'.cell? ⟨bo, 0, none⟩ = some (.slice oo n oc) ∧ W'.cell? ⟨bu, 0, none⟩ = some (.slice na N.length nc0)) := hid fun Y W' h h1 h2 => ⟨((q1.ext0 ((ExtX.refl (Y := noY) W).drew)).ext h h1).cell 0 rfl, ((q2.ext0 ((ExtX.refl (Y := noY) W).drew)).ext h h2).cell 0 rfl⟩
  obtain ⟨k1, k2⟩ := hS.out noY W.drew (ExtX.refl _) rfl rfl
  have hEd : Ext W W.drew := (ExtX.refl W).drew
  have hro1 := hro.out W.drew hXH hz0 hsl
  unfold RowsOut at hro1
  rw [hrl.out] at hro1
  have hboW := q1.lt
  have hbuW := q2.lt
  obtain ⟨nl, hnl⟩ : ∃ nl, N.length = nl := ⟨_, rfl⟩
  have hnl' := hid hnl
  have hMl' : Hid ((rowsL z s ++ N).length = s.length + nl) := hid (by rw [List.length_append, hrl.out, hnl])
  rw [hnl] at hNl hnc0 k2 hst hS ⊢
  clear hs hzB hnz hne hr ih hT hNB hMs hMf hMc hMlen hNrow hSo hUB hUl hTr hsb hsl hN q1 q2 hro hz0 hnl hzl hNN hk3
  go_enter Tryz.func92, Tryz.ntmps92
  go_wp2_with fail
  go_region_held3 (fun w' => w'.cell? ⟨bo, 0, none⟩ = some (.slice oo n oc) ∧ w'.cell? ⟨bu, 0, none⟩ = some (.slice na nl nc0))
    (first | exact hS.out (ob ra) _ ((ExtX.of t1).trans hE2) hnb1 hnb2 | exact hS.out noY _ t23 rfl rfl | exact hS.out noY _ t1 rfl rfl | go_keep)
    (first | (go_at_call 75; (with_reducible refine hro1.mono ?_); rintro ee w1 ⟨t1, ra, rc, rfl, hO1⟩; have hX1 : HX H w1 := hXH.ext (hEd.trans t1); have hn1 : Sl RV 1 (mk (un H ra) w1) na N := hnS.old RV.mono (hEd.trans t1) (fun j hj => hO1.ob_lt hj); have hnb1 : ob ra bo = false := hO1.ob_lt hboW; have hnb2 : ob ra bu = false := hO1.ob_lt hbuW; have hb1 : W.drew.heap.size ≤ w1.heap.size := t1.size) | (go_at_call 91; (with_reducible refine (hnull.out w2 (.slice ro2 (s.length + nl) rc2) hX2 hM2).mono ?_); rintro ee w3 ⟨t3, na3, nc3, rfl, hnc3, hs3⟩; have t23 : Ext W.drew w3 := t2.trans t3) | (refine step_appendl (l := rowsL z s) rfl (by rfl) slRats rfl RV.elem hb1 hX1 N s.length nl hrl.out hnl'.out rfl rfl hO1 hn1 (by omega) (by omega) ?_; intro ro2 rc2 w2 hO2 hE2 hor2; have t2 : Ext W.drew w2 := t1.own hO1 (Nat.le_refl _) hE2; have hX2 : HX H w2 := hXH.ext (hEd.trans t2); have hM2 : MV (mk H w2) (.slice ro2 (s.length + nl) rc2) (rowsL z s ++ N) := ⟨ro2, rc2, by rw [hMl'.out], hO2.lenCap, hO2.sl RV.elem⟩))
  have tW3 : Ext W w3 := hEd.trans t23
  clear t3
  have t3 := tW3
  have hst3 := hst.step t3
  have hX3 := hXH.ext t3
  have hB3 : B0 + 6 ≤ w3.heap.size := Nat.le_trans hB0 t3.size
  have hB0' := hB0
  clear hS k1 k2 hro1 hnS hst hXH hB0 hboW hbuW hnb1 hnb2 hO2 hE2 hor2 t2 hX2 hM2 hO1 hX1 hn1 hb1 t1 hEd t23
  have hsub : ∀ k, twoB bc bs k = true → H k = true := fun k hk => by rw [← hH]; simp [hidS, hk]
  have hkeep := hid (fun (wr : World) (h : ExtX (twoB bc bs) w3 wr) => (keep_ext ((ExtX.of t3).trans h) (fun k hk => by
    have := hl.hi3
    have := hl.hi5
    simp only [twoB, Bool.or_eq_true, beq_iff_eq] at hk
    simp [ownB]; omega) hB0' : Keep B0 W wr))
  have hH' := hid hH
  have hl' := hid hl
  clear hH hl
  by_cases hk1 : k3 = 1
  rotate_left 1
  · have d1 : ((k3 : Int) != 1) = true := bneT (by omega)
    obtain ⟨h1, h2, h3, h4⟩ := hSo'.out
    have hTq : Hid (BInv X w0 bo bu bc bd bs B0 c oo n oc (.slice na nl nc0) z N (done ++ [s]) w3 ∧ Keep B0 W w3) := hid ⟨⟨cnt, dv, us, hst3, h1, h2, h3, fun t ht => by
      rcases List.mem_append.1 ht with h | h
      · exact h4 t h
      · rw [List.mem_singleton.1 h]; exact hno.out (by rw [hk3'.out]; exact hk1) cnt⟩, hkeep.out w3 (ExtX.refl _)⟩
    clear h1 h2 h3 h4 hst3 hs3
    go_wp2_with fail
    refine bodyPost_ret (results_none rfl _ _ _) rfl ?_
    exact ⟨rfl, hTq.out⟩
  subst hk1
  have h0N : 0 < NN.length := by rw [hk3'.out]; decide
  obtain ⟨hLl, hLz, hLo, hLB, hfinT⟩ := hyes.out hk3'.out (NN[0]'h0N) (List.getElem?_eq_getElem _)
  have hrow := hid (fun (wr : World) (h : ExtX (twoB bc bs) w3 wr) => (hs3.mono RC.mono (mk_mono h hsub)).row 0 h0N)
  have hhn : Hd na3 1 := by have := hs3.hd; rw [hk3'.out] at this; exact this
  obtain ⟨L, hL⟩ : ∃ L, NN[0]'h0N = L := ⟨_, rfl⟩
  rw [hL] at hLl hLz hLo hLB hfinT hrow
  have hLl' := hid hLl
  have hLz' := hid hLz
  have hLo' := hid hLo
  have hfinT' := hid hfinT
  have hLC : Hid (BR 9999999999 L) := hid fun q hq => Nat.le_trans (hLB q hq) (by omega)
  have hlit := (lit_sl H w3 [1, -1] 3 #[.int .i64 1, .int .i64 (-1)] rfl hX3 (by simp)).sl (IntIn.elem _)
  have hEa : Ext w3 (w3.alloc (.cells #[.int .i64 1, .int .i64 (-1)] 3)) := (ExtX.refl _).alloc _
  obtain ⟨w4, hw4⟩ : ∃ w4, w3.alloc (.cells #[.int .i64 1, .int .i64 (-1)] 3) = w4 := ⟨_, rfl⟩
  obtain ⟨g4, hg4⟩ : ∃ g4 : Option Addr, some ⟨w3.heap.size, 0, none⟩ = g4 := ⟨_, rfl⟩
  obtain ⟨LL, hLL⟩ : ∃ LL : List Int, [1, -1] = LL := ⟨_, rfl⟩
  have hLLl : Hid (LL.length = 2) := hid (by rw [← hLL]; rfl)
  have hLLv : Hid (∀ q (hq : q < LL.length), (q = 0 ∧ LL[q] = 1) ∨ (q = 1 ∧ LL[q] = -1)) := hid fun q hq => by
    subst hLL
    match q, hq with
    | 0, _ => exact .inl ⟨rfl, rfl⟩
    | 1, _ => exact .inr ⟨rfl, rfl⟩
  rw [hw4] at hEa hlit
  rw [hg4, hLL] at hlit
  have hhL := hlit.hd
  rw [hLLl.out] at hhL
  have hst4 := hst3.step hEa
  have hX4 := hX3.ext hEa
  have hw34 := hid hEa
  obtain ⟨hS1, hS2, hS3, hS4⟩ := hSo'.out
  have hstart := hid (⟨hS1, hS2, hS3, fun h => absurd h (Nat.lt_irrefl _), fun h => by omega, hS4⟩ : Sofar c z cnt us ∧ BM uB us ∧ (∀ r ∈ us, r.length = c) ∧ (0 < 0 → Bd c z cnt (vec (sgL 1 L))) ∧ (1 < 0 → Bd c z cnt (vec (sgL (-1) L))) ∧ ∀ t ∈ done, Tried c (vecs z) (vecs N) cnt (t.map Int.toNat))
  clear hLl hLz hLo hLB hfinT hLL hs3 hL hst3 hS1 hS2 hS3 hS4 hEa hyes hno hSo'
  go_wp2_with fail
  go_loopw [35] (fun cx wr => ∃ (q cnt : Nat) (dv : Value) (us : List (List Rat)), cx = .int .i64 q ∧ q ≤ 2 ∧ cnt ≤ n + 1 ∧ BSt X w0 bo bu bc bd bs B0 c oo n oc (.slice na nl nc0) z N cnt dv us wr ∧ Hid (Sofar c z cnt us ∧ BM uB us ∧ (∀ r ∈ us, r.length = c) ∧ (0 < q → Bd c z cnt (vec (sgL 1 L))) ∧ (1 < q → Bd c z cnt (vec (sgL (-1) L))) ∧ ∀ t ∈ done, Tried c (vecs z) (vecs N) cnt (t.map Int.toNat)) ∧ ExtX (twoB bc bs) w4 wr) (fun cx _ => 2 - (intOf cx).toNat)
  case atStart => exact ⟨0, cnt, dv, us, rfl, Nat.zero_le _, hcl, hst4, hstart, ExtX.refl _⟩
  case round =>
    clear hstart hst4 hcl
    clear cnt dv us
    obtain ⟨q, cnt, dv, us, rfl, hq, hcl, hst, hf, hE⟩ := hrel
    have hE3 : ExtX (twoB bc bs) w3 wr := (ExtX.of hw34.out).trans hE
    have hXr : HX H wr := hX4.ext hE
    by_cases hlt : q < 2
    · have hqL : q < LL.length := by rw [hLLl.out]; exact hlt
      have k00 := (hlit.mono (IntIn.mono _) (mk_mono hE hsub)).int q hqL
      have hsv := hLLv.out q hqL
      obtain ⟨sg, hsg⟩ : ∃ sg, LL[q] = sg := ⟨_, rfl⟩
      rw [hsg] at k00 hsv
      have hsg1 : sg = 1 ∨ sg = -1 := by omega
      have hsgi : -9223372036854775808 ≤ sg ∧ sg ≤ 9223372036854775807 := by omega
      obtain ⟨a1, c1, hX1, hc1, hcl1, hq1⟩ := hrow.out wr hE3
      have k01 := hc1.out noY wr (ExtX.refl _) rfl
      rw [hLl'.out] at k01 hcl1
      have hh1 : Hd a1 c := by have := hq1.hd; rw [hLl'.out] at this; exact this
      obtain ⟨U, hU⟩ : ∃ U, sgL sg L = U := ⟨_, rfl⟩
      have hUl : Hid (U.length = c) := hid (by rw [← hU, sgL_len]; exact hLl'.out)
      have hUi : Hid (∀ j (hj : j < L.length) (h : j < U.length), U[j] = (sg : Rat) * L[j]) := hid fun j hj h => by subst hU; exact sgL_get hj h
      have hUz : Hid (nz c (vec U)) := hid (by rw [← hU]; exact sgL_nz hsg1 hLz'.out)
      have hUo : Hid (Ort c (vecs N) (vec U)) := hid (by rw [← hU]; exact sgL_ort hLo'.out)
      have hUB : Hid (BR uB U) := hid (by rw [← hU]; exact sgL_br hsg1 hLC.out)
      -- what the round may end with
      have hnext : Hid (∀ (cnt' : Nat) (us' : List (List Rat)), cnt' ≤ cnt → Sofar c z cnt' us' → BM uB us' → (∀ r ∈ us', r.length = c) → Bd c z cnt' (vec U) → (Sofar c z cnt' us' ∧ BM uB us' ∧ (∀ r ∈ us', r.length = c) ∧ (0 < q + 1 → Bd c z cnt' (vec (sgL 1 L))) ∧ (1 < q + 1 → Bd c z cnt' (vec (sgL (-1) L))) ∧ ∀ t ∈ done, Tried c (vecs z) (vecs N) cnt' (t.map Int.toNat))) := hid fun cnt' us' h1 h2 h3 h4 h5 => by
        obtain ⟨_, _, _, f4, f5, f6⟩ := hf.out
        subst hU
        refine ⟨h2, h3, h4, fun _ => ?_, fun hq1 => ?_, fun t ht => (f6 t ht).le h1⟩
        · rcases hsv with ⟨rfl, rfl⟩ | ⟨rfl, rfl⟩
          · exact h5
          · exact (f4 (by decide)).le h1
        · rcases hsv with ⟨rfl, rfl⟩ | ⟨rfl, rfl⟩
          · omega
          · exact h5
      have hUl2 : U.length ≤ c := by rw [hUl.out]; exact Nat.le_refl _
      have hUl3 : c ≤ U.length := by rw [hUl.out]; exact Nat.le_refl _
      have hsv' := hid hsv
      clear hc1 hU hsg hsv
      obtain ⟨wo, hwo⟩ : ∃ wo, wo = wr := ⟨_, rfl⟩
      subst hwo
      go_wp2_with (first | (with_reducible refine up_ix1 slInt (by omega) (by assumption) ?_) | (with_reducible refine up_ix1 slRats (by omega) (by assumption) ?_))
      go_loopw [11, 43] (fun o cx wx => ∃ (j : Nat) (uo : Option Addr) (uc : Nat), cx = .int .i64 j ∧ o = .slice uo j uc ∧ j ≤ c ∧ OL QC 3 H wo.heap.size 34 wx uo uc (U.take j) ∧ Ext wo wx) (fun _ cx _ => c - (intOf cx).toNat)
      case atStart => exact ⟨0, none, 0, rfl, rfl, Nat.zero_le _, OL.nil _ _ _ _ _ _, ExtX.refl _⟩
      case round =>
        obtain ⟨j, uo, uc, rfl, rfl, hj, hO, hEj⟩ := hrel
        have hXj : HX H wr := hXr.ext hEj
        have hXu : HX (un H uo) wr := hO.unX hXj
        have hbj := hEj.size
        clear k00 k01
        by_cases hlj : j < c
        · have hjL : j < L.length := by rw [hLl'.out]; exact hlj
          have hjU : j < U.length := by omega
          have htk := hid (take_snoc U j hjU)
          have hln := hid (len_take (l := U) (i := j) (by omega))
          have hUj := hUi.out j hjL hjU
          rw [hUj] at htk
          have hq2 : Sl QC 3 (mk (un H uo) wr) a1 L := hq1.old QC.mono hEj (fun j hj => hO.ob_lt hj)
          have hxB := hLC.out L[j] (List.getElem_mem _)
          obtain ⟨x, hx⟩ : ∃ x, L[j] = x := ⟨_, rfl⟩
          rw [hx] at htk hxB
          have hx' := hid hx
          have bx := Bx.new wr #[.bool false, .slice none 0 0, .slice none 0 0] 34
          have hsgq : Go.Lim.hq (sg : Rat) ≤ 68719476736 := by rcases hsg1 with rfl | rfl <;> decide +kernel
          have hxq : Go.Lim.hq x ≤ 68719476736 := by omega
          have hobn : ob uo wr.heap.size = false := hO.ob_ge (Nat.le_refl _)
          clear hUj hx hxB
          go_wp2_with (first | (with_reducible refine up_ixn slRat (by omega) (by assumption) ?_) | ((with_reducible show wpList _ _ _ (⟨_, .load 34 _, _, _, _, _⟩ :: _) _ _); refine st_loadElem stRat j hq2 hjL rfl (by simp) QC.agg ?_; intro u5 hu5; rw [hx'.out] at hu5; obtain ⟨s5, a5, n5, c5, d5, m5, e5, rfl⟩ := hu5.shape) | ((with_reducible show wpList _ _ _ (⟨_, .store 34 _ _, _, _, _, _⟩ :: _) _ _); refine st_storeBox stRat rfl rfl bx rfl rfl (one3 _ _ _ _ _ _ _) ?_; intro w5 r1 r2; have hE5 : Ext wr w5 := ExtX.box ((ExtX.refl wr).alloc _) r2 (Nat.le_refl _)))
          have hE5d : Ext wr w5.drew := hE5.drew
          have hX5 : HX (un H uo) w5.drew := hXu.ext hE5d
          have x5 : QV (mk (un H uo) w5.drew) (.agg #[.bool s5, .slice a5 n5 c5, .slice d5 m5 e5]) x := (mkx QC.mono hu5 hE5d).qv hxq
          have hS5 : Hid (∀ Y W', ExtX Y w5.drew W' → Y wr.heap.size = false → W'.cell? ⟨wr.heap.size, 0, none⟩ = some (.bool s5) ∧ W'.cell? ⟨wr.heap.size, 1, none⟩ = some (.slice a5 n5 c5) ∧ W'.cell? ⟨wr.heap.size, 2, none⟩ = some (.slice d5 m5 e5)) := hid fun Y W' h hy => by
            have b1 := (r1.ext0 ((ExtX.refl (Y := noY) w5).drew)).ext h hy
            exact ⟨b1.cell 0 rfl, b1.cell 1 rfl, b1.cell 2 rfl⟩
          obtain ⟨m0, m1, m2⟩ := hS5.out noY w5.drew (ExtX.refl _) rfl
          clear bx r1 r2 hu5
          go_region_held3 (fun w' => w'.cell? ⟨wr.heap.size, 0, none⟩ = some (.bool s5) ∧ w'.cell? ⟨wr.heap.size, 1, none⟩ = some (.slice a5 n5 c5) ∧ w'.cell? ⟨wr.heap.size, 2, none⟩ = some (.slice d5 m5 e5))
            (first | exact hS5.out (ob uo) _ ((ExtX.of t12).trans hE8) hobn | exact hS5.out noY _ (ExtX.alloc t12 _) rfl | exact hS5.out noY _ t12 rfl | exact hS5.out noY _ t1 rfl | go_keep)
            (first | (go_at_call 94; (with_reducible refine (qfrom (un H uo) w5.drew sg hX5 hsgi.1 hsgi.2).mono ?_); rintro ee w6 ⟨t1, u6, rfl, hu6⟩; obtain ⟨s6, a6, n6, c6, d6, m6, e6, rfl⟩ := hu6.shape; have hX6 : HX (un H uo) w6 := hX5.ext t1; have hg6 : QV (mk (un H uo) w6) (.agg #[.bool s6, .slice a6 n6 c6, .slice d6 m6 e6]) (sg : Rat) := hu6.qv hsgq; have hx6 : QV (mk (un H uo) w6) (.agg #[.bool s5, .slice a5 n5 c5, .slice d5 m5 e5]) x := mkx QV.mono x5 t1) | (go_at_call 93; (with_reducible refine (qmul (un H uo) w6 _ _ _ _ hX6 hg6 hx6).mono ?_); rintro ee w7 ⟨t2, u7, rfl, hu7⟩; obtain ⟨s7, a7, n7, c7, d7, m7, e7, rfl⟩ := hu7.shape; have t12 : Ext w5.drew w7 := t1.trans t2; have hO7 := hO.ext0 QC.elem (hE5d.trans t12); have hX7 : HX H w7 := hXj.ext (hE5d.trans t12); have hb7 : wo.heap.size ≤ w7.heap.size := Nat.le_trans hbj (hE5d.trans t12).size) | (refine step_append1 (l := U.take j) rfl (by rfl) slRat rfl QC.elem hb7 hX7 j hln.out rfl rfl hO7 (.agg #[.bool s7, .slice a7 n7 c7, .slice d7 m7 e7]) ((sg : Rat) * x) rfl hu7 (by omega) (by omega) ?_; intro uo2 uc2 w8 hO8 hE8 hor8))
          have hE9 := (hEj.trans (hE5d.trans t12)).own hO7 (Nat.le_refl _) hE8
          rw [htk.out] at hO8
          clear m0 m1 m2
          go_wp2_with fail
          go_roundw
          case rel => exact ⟨j + 1, uo2, uc2, by go_num, by go_num, by omega, hO8, hE9⟩
          case measure => simp [intOf]; omega
        · have hjc : c = j := by omega
          subst hjc
          rw [List.take_of_length_le (by omega)] at hO
          have huc := hO.lenCap
          have hURV : RV (mk H wr) (.slice uo c uc) U := ⟨uo, uc, by rw [hUl.out], huc, (hO.sl QC.elem).qv fun q hq => Nat.le_trans (hUB.out q hq) (by decide)⟩
          have hsty := hst.step hEj
          have hEw : ExtX (twoB bc bs) w4 wr := hE.then_ hEj (fun _ _ _ => rfl)
          have hXy := hXj
          clear hst hO hXu hbj hlj hj huc hq1 hrow hhn hEj hXr hXj
          obtain ⟨wy, hwy⟩ : ∃ wy, wy = wr := ⟨_, rfl⟩
          subst hwy
          have k1 := hsty.b1.cell 0 rfl
          have hzy := hsty.r1
          rw [hH'.out] at hzy
          obtain ⟨zo, zc, hze, hzc, hzs⟩ := hzy
          obtain ⟨rfl, -, rfl⟩ : oo = zo ∧ n = z.length ∧ oc = zc := by simpa using hze
          clear hze
          have hhz : Hd oo n := by have := hzs.hd; rw [hzl'.out] at this; exact this
          go_wp2_with fail
          go_loopw [14, 15, 57] (fun nn o cx wx => ∃ (i : Nat) (fo : Option Addr) (fc : Nat) (F : List (List Rat)) (P : Nat), cx = .int .i64 i ∧ i ≤ n ∧ nn = .int .i64 (P : Int) ∧ P ≤ i ∧ o = .slice fo F.length fc ∧ F.length ≤ i ∧ Hid (P = posM c U (z.take i) ∧ F = onM c U (z.take i)) ∧ OL RV 1 H wy.heap.size 27 wx fo fc F ∧ Ext wy wx) (fun _ _ cx _ => n - (intOf cx).toNat)
          case atStart => exact ⟨0, none, 0, [], 0, rfl, Nat.zero_le _, rfl, Nat.zero_le _, rfl, Nat.zero_le _, hid ⟨rfl, rfl⟩, OL.nil _ _ _ _ _ _, ExtX.refl _⟩
          case round =>
            obtain ⟨i, fo, fc, F, P, rfl, hi, rfl, hPi, rfl, hFl, hFe, hO, hEi⟩ := hrel
            have hXi : HX H wr := hXy.ext hEi
            have hbi := hEi.size
            clear k1
            by_cases hli : i < n
            · have hiZ : i < z.length := by rw [hzl'.out]; exact hli
              have hzr : Sl RV 1 (mk (un H fo) wr) oo z := hzs.old RV.mono hEi (fun j hj => hO.ob_lt hj)
              obtain ⟨a2, c2, hX2, hc2, hcl2, hq2⟩ := hzr.row i hiZ
              have k00 := hc2.out noY wr (ExtX.refl _) rfl
              have hvl := hsh'.out.2 z[i] (List.getElem_mem _)
              have hvB := hzB'.out z[i] (List.getElem_mem _)
              have hos := hid (onM_succ c U hiZ)
              have hps := hid (posM_succ c U hiZ)
              have hdv := hid (dot_vec (u := U) (z := z[i]) hUl.out)
              have hdb := dot_bounds2 (l := U) (m := z[i]) hUB.out hvB (by decide) hB1 (by
                rw [hUl.out]
                have e : uB = 10000000000 := rfl
                have : c * (uB + B + 1) ≤ 3 * (uB + B + 1) := Nat.mul_le_mul_right _ hc3
                omega)
              have hvU : RV (mk (un H fo) wr) (.slice a2 z[i].length c2) z[i] := ⟨a2, c2, rfl, hcl2, hq2⟩
              have hvX : RV (mk H wr) (.slice a2 z[i].length c2) z[i] := RV.mono _ _ _ _ (mk_sub (X := H) fun k _ hk => un_left hk) hvU
              have hdot := edot_any H wr (.slice uo c uc) (.slice a2 z[i].length c2) U z[i] hXi (mkx RV.mono hURV hEi) hvX (by rw [hUl.out]; omega) (by rw [hUl.out]; exact hvl) hdb.1 hdb.2
              have hdq : Hid (Go.Lim.hq (dotL U z[i]) ≤ 68719476736) := hid (hdb.1 _ (Nat.le_refl _))
              rw [← hdv.out] at hos hps
              rw [hvl] at k00 hdot hvU
              obtain ⟨D, hD⟩ : ∃ D, dotL U z[i] = D := ⟨_, rfl⟩
              obtain ⟨v, hv⟩ : ∃ v, z[i] = v := ⟨_, rfl⟩
              rw [hD] at hos hps hdot hdq
              rw [hv] at hos hvU
              clear hc2 hvl hvB hdb hD hdv hcl2 hq2 hv hvX hzr
              rcases sign_cases D with ⟨hs, hsg⟩ | ⟨hs, hsg⟩ | ⟨hs, hsg⟩
              · have hF2 : Hid (P + 1 = posM c U (z.take (i + 1)) ∧ F = onM c U (z.take (i + 1))) := hid ⟨by rw [hps.out, if_pos hs, ← hFe.out.1], by rw [hos.out, if_neg (by grind), ← hFe.out.2, List.append_nil]⟩
                have hsg' := hid hsg
                clear hs hsg hos hps
                go_wp2_with (with_reducible refine up_ix1 slRats (by omega) (by assumption) ?_)
                refine hdot.mono ?_
                rintro e w7 ⟨hE7, u7, rfl, hu7⟩
                go_wp2_with fail
                refine (qsign H w7 u7 D (hXi.ext hE7) (hu7.qv hdq.out)).mono ?_
                rintro e w8 ⟨hE8, rfl⟩
                rw [hsg'.out]
                have hE78 := hE7.trans hE8
                have hO8 := hO.ext0 RV.elem hE78
                have hE10 := hEi.trans hE78
                clear k00 hdot
                go_wp2_with fail
                go_roundw
                case rel => exact ⟨i + 1, fo, fc, F, P + 1, by go_num, by omega, by go_num, by omega, rfl, by omega, hF2, hO8, hE10⟩
                case measure => simp [intOf]; omega
              · have hF2 : Hid (P = posM c U (z.take (i + 1)) ∧ F ++ [v] = onM c U (z.take (i + 1))) := hid ⟨by rw [hps.out, if_neg (by grind), ← hFe.out.1]; rfl, by rw [hos.out, if_pos hs, ← hFe.out.2]⟩
                have hsg' := hid hsg
                clear hs hsg hos hps
                go_wp2_with (with_reducible refine up_ix1 slRats (by omega) (by assumption) ?_)
                refine hdot.mono ?_
                rintro e w7 ⟨hE7, u7, rfl, hu7⟩
                go_wp2_with fail
                refine (qsign H w7 u7 D (hXi.ext hE7) (hu7.qv hdq.out)).mono ?_
                rintro e w8 ⟨hE8, rfl⟩
                rw [hsg'.out]
                have hE78 := hE7.trans hE8
                have hO8 := hO.ext0 RV.elem hE78
                have hX8 := hXi.ext hE78
                have hv8 := mkx RV.mono hvU hE78
                have hb8 := (hEi.trans hE78).size
                clear k00 hdot
                go_wp2_with (at_builtin; refine st_append1n (l := F) slRats rfl RV.elem hb8 hX8 F.length rfl rfl rfl hO8 (.slice a2 c c2) v rfl hv8 (by omega) (by omega) ?_; intro oo2 co2 w9 hO9 hE9 hor)
                have hE10 := (hEi.trans hE78).own hO8 (Nat.le_refl _) hE9
                have hl9 : (F ++ [v]).length = F.length + 1 := by simp
                go_roundw
                case rel => exact ⟨i + 1, oo2, co2, F ++ [v], P, by go_num, by omega, rfl, by omega, by rw [hl9], by omega, hF2, hO9, hE10⟩
                case measure => simp [intOf]; omega
              · have hF2 : Hid (P = posM c U (z.take (i + 1)) ∧ F = onM c U (z.take (i + 1))) := hid ⟨by rw [hps.out, if_neg (by grind), ← hFe.out.1]; rfl, by rw [hos.out, if_neg (by grind), ← hFe.out.2, List.append_nil]⟩
                have hsg' := hid hsg
                clear hs hsg hos hps
                go_wp2_with (with_reducible refine up_ix1 slRats (by omega) (by assumption) ?_)
                refine hdot.mono ?_
                rintro e w7 ⟨hE7, u7, rfl, hu7⟩
                go_wp2_with fail
                refine (qsign H w7 u7 D (hXi.ext hE7) (hu7.qv hdq.out)).mono ?_
                rintro e w8 ⟨hE8, rfl⟩
                rw [hsg'.out]
                have hE78 := hE7.trans hE8
                have hO8 := hO.ext0 RV.elem hE78
                have hE10 := hEi.trans hE78
                clear k00 hdot
                go_wp2_with fail
                go_roundw
                case rel => exact ⟨i + 1, fo, fc, F, P, by go_num, by omega, rfl, by omega, rfl, by omega, hF2, hO8, hE10⟩
                case measure => simp [intOf]; omega
            · have hin : i = n := by omega
              have hFP : P = posM c U z ∧ F = onM c U z := by
                obtain ⟨h1, h2⟩ := hFe.out
                rw [List.take_of_length_le (by rw [hzl'.out, hin]; exact Nat.le_refl _)] at h1 h2
                exact ⟨h1, h2⟩
              have hFP' := hid hFP
              have hstz := hsty.step hEi
              have hEz : ExtX (twoB bc bs) w4 wr := hEw.then_ hEi (fun _ _ _ => rfl)
              have k3 := hstz.b3.cell 0 rfl
              obtain ⟨f1, f2, f3, _⟩ := hf.out
              have hkeepN := hid (fun (U0 : Bd c z cnt (vec U)) => hnext.out cnt us (Nat.le_refl _) f1 f2 f3 U0)
              clear hFe hFP hsty hzs hhz hli hi f1 f2 f3
              by_cases hPc : cnt ≤ P
              · have hN2 := hid (hkeepN.out (bd_triv (by rw [← hFP'.out.1]; exact hPc)))
                go_wp2_with fail
                go_roundw
                case rel => exact ⟨q + 1, cnt, dv, us, by go_num, by omega, hcl, hstz, hN2, hEz⟩
                case measure => simp [intOf]; omega
              · have hLit := lit_row1 H wr uo c uc U 27 hXi (mkx RV.mono hURV hEi)
                have hEt : Ext wr (wr.alloc (.cells #[.slice uo c uc] 27)) := (ExtX.refl _).alloc _
                have hFs := (hO.sl RV.elem).old (oo := some ⟨wr.heap.size, 0, none⟩) RV.mono hEt (ob_new wr)
                have hFc := hO.lenCap
                obtain ⟨g, hg⟩ : ∃ g : Option Addr, some ⟨wr.heap.size, 0, none⟩ = g := ⟨_, rfl⟩
                obtain ⟨wt, hwt⟩ : ∃ wt, wr.alloc (.cells #[.slice uo c uc] 27) = wt := ⟨_, rfl⟩
                rw [hg, hwt] at hLit hFs
                rw [hwt] at hEt
                have hstT := hstz.step hEt
                have hXt : HX H wt := hXi.ext hEt
                have hXg : HX (un H g) wt := hLit.unX hXt
                have hFr : ∀ r ∈ F, r.length = c ∧ BR B r := fun r hr => by
                  rw [hFP'.out.2] at hr
                  have := onM_sub _ _ _ r hr
                  exact ⟨hsh'.out.2 r this, hzB'.out r this⟩
                obtain ⟨fl, hfl⟩ : ∃ fl, F.length = fl := ⟨_, rfl⟩
                have hfl' := hid hfl
                have hUr : ∀ r ∈ [U], r.length = c := fun r hr => by rw [List.mem_singleton.1 hr]; exact hUl.out
                have hUBM : BM uB [U] := fun r hr => by rw [List.mem_singleton.1 hr]; exact hUB.out
                rw [hfl] at hFc hFl ⊢
                clear hO hfl
                have k3t := hstT.b3.cell 0 rfl
                by_cases h0 : 0 < fl
                rotate_left 1
                · have hF0 : onM c U z = [] := by rw [← hFP'.out.2]; exact List.eq_nil_of_length_eq_zero (by rw [hfl'.out]; omega)
                  obtain ⟨p1, p2, hst9, hE9⟩ := hstT.put hl'.out P (.slice g 1 1) [U] (by rw [hH'.out]; exact ⟨g, 1, rfl, Nat.le_refl _, hLit.sl RV.elem⟩)
                  have hwit := (st_one hUz.out hF0).1
                  rw [← hFP'.out.1] at hwit
                  have hN2 := hid (hnext.out P [U] (by omega) (.inr hwit) hUBM hUr (bd_triv (by rw [← hFP'.out.1]; exact Nat.le_refl _)))
                  have q1 := hstT.b3.frozen 0
                  have hE10 := (hEz.then_ hEt (fun _ _ _ => rfl)).trans hE9
                  clear hstz hstT hLit hF0 hFs hwit hUr hUBM
                  go_wp2_with (first | ((with_reducible show wpList _ _ _ (⟨_, .store 3 _ _, _, _, _, _⟩ :: _) _ _); refine st_cell tyInt rfl rfl rfl rfl k3t q1 ?_) | ((with_reducible show wpList _ _ _ (⟨_, .store 25 _ _, _, _, _, _⟩ :: _) _ _); refine st_cell tyRatss rfl rfl rfl rfl p1 p2 ?_))
                  go_roundw
                  case rel => exact ⟨q + 1, P, .slice g 1 1, [U], by go_num, by omega, by omega, hst9, hN2, hE10⟩
                  case measure => simp [intOf]; omega
                · have hrec := ih'.out fl (by rw [← hfl'.out, hFP'.out.2]; exact hless.out U hUz.out hUo.out) (un H g) wt (.slice fo fl fc) F c B hXg ⟨fo, fc, by rw [hfl'.out], by rw [hfl'.out]; exact hFc, hFs⟩ ⟨hfl'.out, fun r hr => (hFr r hr).1⟩ (by omega) (by omega) hc3 (fun r hr => (hFr r hr).2) hB1 hB
                  have k4 := hstT.b4.cell 0 rfl
                  have hFne : onM c U z ≠ [] := fun h => by rw [← hFP'.out.2] at h; rw [← hfl'.out, h] at h0; exact absurd h0 (by decide)
                  have hFsh : Shp fl c F := ⟨hfl'.out, fun r hr => (hFr r hr).1⟩
                  go_wp2_with fail
                  refine hrec.mono ?_
                  rintro e w9 ⟨hE9, l, dv2, us2, rfl, ⟨ao2, ca2, rfl, hca2, hs2⟩, hB2, hl2, hd2, hw2⟩
                  have hll := hd2.le
                  have hsho := Wit.short hFsh (by omega) hw2
                  have e9 : (vecs F).length = fl := by rw [← hfl'.out]; simp [vecs]
                  rw [e9] at hll
                  rw [hFP'.out.2] at hd2 hw2
                  have hwit := hmore.out U l us2 hUz.out hUo.out hFne hw2 hd2
                  rw [← hFP'.out.1] at hwit
                  have hbd := hid (fun n' (h : n' ≤ P + l) => bd_more hd2 (n := n') (by rw [← hFP'.out.1]; exact h))
                  obtain ⟨ul, hul⟩ : ∃ ul, us2.length = ul := ⟨_, rfl⟩
                  have hul' := hid hul
                  rw [hul] at hca2 hsho ⊢
                  have hLit9 := hLit.ext0 RV.elem hE9
                  have hX9 : HX H w9 := hXt.ext hE9
                  have hb9 := (hEt.trans hE9).size
                  have hwr : IntKind.i64.wrap ((P : Int) + (l : Int)) = ((P + l : Nat) : Int) := by rw [IntWalk.i64_in _ (by omega)]; omega
                  have hst9 := hstT.step hE9
                  have hE4 : ExtX (twoB bc bs) w4 w9 := hEz.then_ (hEt.trans hE9) (fun _ _ _ => rfl)
                  have hUr2 : ∀ r ∈ U :: us2, r.length = c := fun r hr => by
                    rcases List.mem_cons.1 hr with rfl | hr
                    · exact hUl.out
                    · exact hl2 r hr
                  have hUB2 : BM uB (U :: us2) := fun r hr => by
                    rcases List.mem_cons.1 hr with rfl | hr
                    · exact hUB.out
                    · exact hB2 r hr
                  have hFPn := hid (fun (h : P + l < cnt) => hnext.out (P + l) (U :: us2) (by omega) (.inr hwit) hUB2 hUr2 (hbd.out _ (Nat.le_refl _)))
                  have hFPk := hid (fun (h : cnt ≤ P + l) => hkeepN.out (hbd.out cnt h))
                  clear hrec hd2 hw2 hwit hUr2 hUB2 hB2 hl2 hul hstT hLit hFs k3 k3t k4 hUr hUBM hFr hFsh hFne e9
                  by_cases hPl : P + l < cnt
                  · have hN2 := hid (hFPn.out hPl)
                    have hPl' : (P : Int) + (l : Int) < (cnt : Int) := by omega
                    go_wp2_with (first | (at_builtin; refine st_appendl (l := [U]) slRats rfl RV.elem hb9 hX9 us2 rfl (by rw [hul'.out]; rfl) hLit9 hs2 (by rw [hul'.out, List.length_singleton]; omega) (by rw [hul'.out, List.length_singleton]; omega) ?_; intro g2 gc2 w10 hO10 hE10 hor10; have hEA : Ext wr w10 := (hEt.trans hE9).own hLit9 (Nat.le_refl _) hE10; have hst10 := hstz.step hEA; have k5 := hst10.b3.cell 0 rfl; have q1 := hst10.b3.frozen 0; obtain ⟨p1, p2, hst11, hE11⟩ := hst10.put hl'.out (P + l) (.slice g2 (us2.length + 1) gc2) (U :: us2) (by rw [hH'.out]; exact ⟨g2, gc2, rfl, by have := hO10.lenCap; simpa using this, hO10.sl RV.elem⟩); clear hO10) | ((with_reducible show wpList _ _ _ (⟨_, .store 3 _ _, _, _, _, _⟩ :: _) _ _); refine st_cell tyInt rfl rfl rfl rfl k5 q1 ?_) | ((with_reducible show wpList _ _ _ (⟨_, .store 25 _ _, _, _, _, _⟩ :: _) _ _); refine st_cell tyRatss rfl rfl rfl rfl p1 p2 ?_))
                    have hEB := (hEz.then_ hEA (fun _ _ _ => rfl)).trans hE11
                    go_roundw
                    case rel => exact ⟨q + 1, P + l, _, U :: us2, by go_num, by omega, by omega, hst11, hN2, hEB⟩
                    case measure => simp [intOf]; omega
                  · have hN2 := hid (hFPk.out (by omega))
                    have hPl' : ¬ (P : Int) + (l : Int) < (cnt : Int) := by omega
                    go_wp2_with (at_builtin; refine st_appendl (l := [U]) slRats rfl RV.elem hb9 hX9 us2 rfl (by rw [hul'.out]; rfl) hLit9 hs2 (by rw [hul'.out, List.length_singleton]; omega) (by rw [hul'.out, List.length_singleton]; omega) ?_; intro g2 gc2 w10 hO10 hE10 hor10; have hEA : Ext wr w10 := (hEt.trans hE9).own hLit9 (Nat.le_refl _) hE10; have hst10 := hstz.step hEA; have k5 := hst10.b3.cell 0 rfl; clear hO10)
                    have hEB := hEz.then_ hEA (fun _ _ _ => rfl)
                    go_roundw
                    case rel => exact ⟨q + 1, cnt, dv, us, by go_num, by omega, hcl, hst10, hN2, hEB⟩
                    case measure => simp [intOf]; omega
    · have hq2 : q = 2 := by omega
      subst hq2
      obtain ⟨f1, f2, f3, f4, f5, f6⟩ := hf.out
      have hTq : Hid (BInv X w0 bo bu bc bd bs B0 c oo n oc (.slice na nl nc0) z N (done ++ [s]) wr ∧ Keep B0 W wr) := hid ⟨⟨cnt, dv, us, hst, f1, f2, f3, fun t ht => by
        rcases List.mem_append.1 ht with h | h
        · exact f6 t h
        · rw [List.mem_singleton.1 h]; exact hfinT'.out cnt (f4 (by decide)) (f5 (by decide))⟩, hkeep.out wr hE3⟩
      clear f1 f2 f3 f4 f5 f6 hst
      go_wp2_with fail
      go_end0
      exact ⟨rfl, hTq.out⟩
end Go.Proofs.YthipmbmjodhiiaaGreat


namespace Go.Lin
open Go.Lim
/-- What the program's Rank computes. -/
noncomputable def rankV (m : Mat) (c : Nat) : Nat := (eN m c).2.1.length
theorem rankV_red (m : Mat) (c : Nat) : rankV m c = (redP m c).2.length := rfl
end Go.Lin


namespace Go.Proofs.YthipmbmjodhiiaaGreat
open Go.RowKit Go.Rep Go.Lim Go.Lin

theorem rank_ok (X : Nat → Bool) (w : World) (u : Value) (m : List (List Rat)) (hX : HX X w) (hu : MV (mk X w) u m) (hf : formedB m = true) (hT : TameE m (colsL m)) : Calls Tryz.prog 90 #[u] w (fun e w' => Ext w w' ∧ e = .returned (.tuple #[.int .i64 (rankV m (colsL m) : Int), .int .i64 0])) := by
  obtain ⟨hsh, h96, hc96, _, _⟩ := formedB_shp hf
  have hfo := formed_any X w u m hu (by omega)
  rw [hf] at hfo
  have hco := copied_any X w u m m.length (colsL m) hX hu hsh rfl (by omega) (by omega)
  have hrv : Hid ((eN m (colsL m)).2.1.length = rankV m (colsL m)) := hid rfl
  clear hf
  go_enter Tryz.func90, Tryz.ntmps90
  go_wp2_with fail
  refine hfo.mono ?_
  rintro e w1 ⟨rfl, rfl⟩
  go_wp2_with fail
  refine hco.mono ?_
  rintro e w2 ⟨hE2, ao, cap, hs, rfl, hM2⟩
  go_wp2_with fail
  refine (echelon_any X _ w2 ao cap m.length (colsL m) hs m (hX.ext hE2) hM2 hsh rfl (by omega) (by omega) hT).mono ?_
  rintro e w3 ⟨hE3, po, pc, hs', rfl, hmb, hM3, hP3⟩
  have hEf := hM2.ext_from hE2 (Nat.le_refl _) hE3
  rw [hrv.out]
  go_wp2_with fail
  go_ret2
  exact ⟨hEf, rfl⟩

end Go.Proofs.YthipmbmjodhiiaaGreat

