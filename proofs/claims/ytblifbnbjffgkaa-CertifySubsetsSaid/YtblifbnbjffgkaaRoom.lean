/- append where there is room; a list that is cut. Conditions: none. -/
import Derived.Test.YtblifbnbjffgkaaCopy
namespace Go.Rep
open Go.RowKit

section
variable {P : Program} {ops : Array Oper} {Q : Exit → Act → World → Prop} {rest : List Oper} {a : Act} {w : World}
variable {α : Type} {R : Mem → Value → α → Prop} {sz : Nat} {X : Nat → Bool} {base : Nat} {e : TypeId} {ao : Option Addr} {cap : Nat} {l : List α}
variable {d : Option Tmp} {ty : TypeId} {ps : String} {af : Array Edge}

theorem OL.take (h : OL R sz X base e w ao cap l) (hsz : ∀ m u x, R m u x → u.cells.size = sz) (n : Nat) : OL R sz X base e w ao cap (l.take n) := by
  have hf := h.form
  obtain ⟨hx, us, h1, h2, h22, ⟨h3, h4⟩, h5⟩ := h
  have hus : ∀ u ∈ us.take n, u.cells.size = sz := fun u hu => h2 u (List.mem_of_mem_take hu)
  refine ⟨hx, us.take n, by simp [h1], hus, fun u hu => h22 u (List.mem_of_mem_take hu), ⟨by rw [flat_length _ hus]; simp [h1], ?_⟩, fun i hi hi' => ?_⟩
  · rcases h4 with ⟨hv, hn⟩ | ⟨g, c, cur, hv, q1, q2, q3, q4, q5, q6⟩
    · simp at hv
      obtain ⟨rfl, h0, rfl⟩ := hv
      refine .inl ⟨by simp [h0], by simp [h0]⟩
    · simp at hv
      obtain ⟨rfl, rfl⟩ := hv
      refine .inr ⟨g, cap, cur, by simp, q1, q2, by simp; omega, q4, q5, ?_⟩
      have e1 : (us.take n).flatMap cellsL = (us.flatMap cellsL).take ((l.take n).length * sz) := by
        have e2 : us.flatMap cellsL = (us.take n).flatMap cellsL ++ (us.drop n).flatMap cellsL := by
          rw [← List.flatMap_append, List.take_append_drop]
        rw [e2]
        have e3 : (l.take n).length * sz = ((us.take n).flatMap cellsL).length := by rw [flat_length _ hus]; simp [h1]
        rw [e3, List.take_left]
      rw [e1, ← q6, List.take_take]
      congr 1
      have : (l.take n).length ≤ l.length := by simp; omega
      exact (Nat.min_eq_left (Nat.mul_le_mul_right _ this)).symm
  · simp only [List.getElem_take]
    exact h5 i (by simp at hi; omega) (by simp at hi'; omega)

/-- append(s, x) of one element, just laid in a block of its own, where there is room. -/
theorem st_append_room {t by_ : Nat} {z : Value} {arr : Array Value} {s x : Operand} {g n : Nat} (T : SliceT P t e sz by_ z) (hR : Elem R sz)
    (hs : a.eval s = .slice (some ⟨g, 0, none⟩) n cap) (hn : l.length = n) (hx : a.eval x = .slice (some ⟨w.heap.size, 0, none⟩) 1 1) (h : OL R sz X base e w (some ⟨g, 0, none⟩) cap l)
    (u : Value) (y : α) (harr : arr = u.cells) (hu : R (mk (un X (some ⟨g, 0, none⟩)) w) u y) (hroom : n + 1 ≤ cap)
    (K : ∀ w', OL R sz X base e w' (some ⟨g, 0, none⟩) cap (l ++ [y]) → ExtX (ob (some ⟨g, 0, none⟩)) w w' → wpList P ops Q rest (a.put d (.slice (some ⟨g, 0, none⟩) (n + 1) cap)) w') :
    wpList P ops Q (⟨d, .call { callee := .builtin .append, args := #[s, x], argTypes := #[t, t] }, ty, ps, af, none⟩ :: rest) a (w.alloc (.cells arr e)) := by
  subst hn
  refine wpList_plain rfl fun K' hK' => ?_
  have hE : Ext w (w.alloc (.cells arr e)) := (ExtX.refl w).alloc _
  have h' := h.ext0 hR hE
  obtain ⟨i, hi, hz, hsz, hby⟩ := info_parts T.info
  have hat := at_new w arr e u harr
  have husz := hR.size _ _ _ hu
  have hu1 := hR.one _ _ _ hu
  have hu2 : R (mk (un X (some ⟨g, 0, none⟩)) (w.alloc (.cells arr e))) u y := hR.mono _ _ _ _ (mk_ext hE) hu
  have hnl : (cellsL u).length = 1 * i.size := by simp [cellsL, husz, hsz]
  have hnews : ∀ j v, (cellsL u)[j]? = some v → (w.alloc (.cells arr e)).cell? ((⟨w.heap.size, 0, none⟩ : Addr).add j) = some v := by
    intro j v hj
    rw [← adr_addr rfl]; exact hat.2 j v (by simpa using hj)
  have hform := h'.form
  generalize hW : w.alloc (.cells arr e) = W at hE h' hu2 hnews hform
  obtain ⟨hx', us, h1, h2, h22, h3, h5⟩ := h'
  rcases hform with ⟨hv, _⟩ | ⟨g', cur, hv, h6, h7, h8, h9, h10⟩
  · simp at hv
  simp at hv
  subst hv
  have hul : (us.flatMap cellsL).length = l.length * i.size := by rw [flat_length us h2, h1, hsz]
  have hfl : (us ++ [u]).flatMap cellsL = us.flatMap cellsL ++ cellsL u := by simp
  have hnew : ∀ v ∈ us ++ [u], v.cells.size = sz := by
    intro v hv
    rcases List.mem_append.1 hv with hv | hv
    · exact h2 v hv
    · rw [List.mem_singleton.1 hv]; exact husz
  have hnew1 : ∀ v ∈ us ++ [u], ∀ c ∈ cellsL v, c.oneCell' = true := by
    intro v hv c hc
    rcases List.mem_append.1 hv with hv | hv
    · exact h22 v hv c hc
    · rw [List.mem_singleton.1 hv] at hc; exact hu1 c hc
  have hfit : l.length * i.size + (cellsL u).length ≤ cur.size := by rw [hnl, h10, ← hsz, ← Nat.add_mul]; exact Nat.mul_le_mul_right _ hroom
  have hr := run_append_room (P := P) W t ty e i T.und hi g l.length cap cur h7 ⟨w.heap.size, 0, none⟩ 1 1 (cellsL u) hnl hnews hu1 hroom hfit
  have hE2 : ExtX (ob (some ⟨g, 0, none⟩)) W (W.setRow g (cur.toList.take (l.length * i.size) ++ cellsL u ++ cur.toList.drop (l.length * i.size + (cellsL u).length)).toArray) :=
    ⟨rfl, rfl, rfl, by simp, fun k _ hk => setRow_other W g k _ (fun ek => by subst ek; simp [ob] at hk)⟩
  have hll : (l ++ [y]).length = l.length + 1 := by simp
  have hOL : OL R sz X base e (W.setRow g (cur.toList.take (l.length * i.size) ++ cellsL u ++ cur.toList.drop (l.length * i.size + (cellsL u).length)).toArray) (some ⟨g, 0, none⟩) cap (l ++ [y]) := by
    refine ⟨hx', us ++ [u], by simp [h1], hnew, hnew1, ⟨by rw [hfl]; simp [hul, hnl, hsz, Nat.add_mul], .inr ⟨g, cap, _, by rw [hll], h6, setRow_heap W g cur _ e _ h7, by rw [hll]; exact hroom, h9, ?_, ?_⟩⟩, ?_⟩
    · simp only [List.size_toArray, List.length_append, List.length_take, List.length_drop, Array.length_toList]; omega
    · rw [hfl, hll]
      rcases h3.2 with ⟨hv, _⟩ | ⟨g', c', cur', hv, _, h7', _, _, _, h11⟩
      · simp at hv
      simp at hv
      obtain ⟨rfl, rfl⟩ := hv
      rw [h7] at h7'
      obtain rfl : cur = cur' := by simpa using h7'
      have e1 : cur.toList.take (l.length * i.size) = us.flatMap cellsL := by rw [hsz]; exact h11
      rw [e1]
      have hll2 : (l.length + 1) * sz = (us.flatMap cellsL ++ cellsL u).length := by simp only [List.length_append, hul, hnl, hsz, Nat.add_mul]
      rw [hll2]
      exact List.take_left
    · intro k hk hk'
      have hle : Le (mk (un X (some ⟨g, 0, none⟩)) W) (mk (un X (some ⟨g, 0, none⟩)) _) := mkun_over hE2 (.inl rfl)
      by_cases hlt : k < us.length
      · simpa [List.getElem_append_left hlt, List.getElem_append_left (show k < l.length by omega)] using hR.mono _ _ _ _ hle (h5 k hlt (by omega))
      · have hke : k = us.length := by simp at hk; omega
        subst hke
        have := hR.mono _ _ _ _ hle hu2
        simpa [List.getElem_append_right, h1] using this
  unfold Oper.wp execOp
  simp only [resolve, invoke, builtin, Sem.run_bind, Sem.run_pure, Result.andThen_ok, List.map_toArray, List.map_cons, List.map_nil, hs, hx]
  rw [hr]
  exact hK' _ _ (K _ hOL ((ExtX.of hE).trans hE2))

/-- make([]T, 0, n). -/
theorem st_make0 {t by_ : Nat} {z : Value} {x y : Operand} {kl kc : IntKind} {m m0 : Int} (T : SliceT P t e sz by_ z) (hzs : z.cells.size = sz) (X : Nat → Bool) (hX : ∀ k, X k = true → k < w.heap.size) (base : Nat) (hbase : base ≤ w.heap.size)
    (n : Nat) (hl : a.eval x = .int kl m0) (hm0 : m0 = 0) (hc : a.eval y = .int kc m) (hm : m = (n : Int)) (hroom : by_ * n ≤ 281474976710656) (hmax : n ≤ 9223372036854775807)
    (K : ∀ w', OL R sz X base e w' (some ⟨w.heap.size, 0, none⟩) n [] → Ext w w' → w'.heap.size = w.heap.size + 1 → wpList P ops Q rest (a.put d (.slice (some ⟨w.heap.size, 0, none⟩) 0 n)) w') :
    wpList P ops Q (⟨d, .makeSlice t x y, ty, ps, af, none⟩ :: rest) a w := by
  refine wpList_plain rfl fun K' hK' => ?_
  subst hm; subst hm0
  obtain ⟨i, hi, hiz, hsz, hby⟩ := info_parts T.info
  have hr := Go.run_make (P := P) w t e i z T.und hi hiz kl kc 0 n (by omega) (by omega) (by rw [hby, ← Int.natCast_mul]; omega) (by omega)
  simp only [Int.toNat_natCast, Int.toNat_zero] at hr
  unfold Oper.wp
  simp [execOp, hl, hc, hr, Result.andThen]
  refine hK' _ _ (K _ ⟨fun k hk => ?_, [], rfl, by simp, by simp, ⟨by simp, .inr ⟨w.heap.size, n, _, by simp, hbase, heap_alloc_new w _, by simp, by simpa [maxLen] using hmax, by rw [size_madeCells, hsz], by simp⟩⟩, fun i hi => by simp at hi⟩ ((ExtX.refl w).alloc _) (by simp))
  have : w.heap.size = k := by simpa [ob] using hk
  cases hh : X k
  · rfl
  · have := hX k hh; omega

/-- append(s, x) of one element inside a region that draws its order. -/
theorem step_append1 {o : Oper} {K : Act → World → Prop} {E : Prop} (hg : o.guard = none) {t by_ n : Nat} {z : Value} {arr : Array Value} (s x : Operand) (hop : o.op = .call { callee := .builtin .append, args := #[s, x], argTypes := #[t, t] }) (T : SliceT P t e sz by_ z) (hzs : z.cells.size = sz) (hR : Elem R sz) (hbase : base ≤ w.heap.size) (hX : ∀ k, X k = true → k < w.heap.size)
    (hs : a.eval s = .slice ao n cap) (hn : l.length = n) (hx : a.eval x = .slice (some ⟨w.heap.size, 0, none⟩) 1 1) (h : OL R sz X base e w ao cap l)
    (u : Value) (y : α) (harr : arr = u.cells) (hu : R (mk (un X ao) w) u y) (hroom : (n + 1) * by_ ≤ 140737488355328) (hmax : n + 1 ≤ 9223372036854775807)
    (hK : ∀ ao' cap' w', OL R sz X base e w' ao' cap' (l ++ [y]) → ExtX (ob ao) w w' → (ao' = ao ∨ ∃ g, ao' = some ⟨g, 0, none⟩ ∧ w.heap.size ≤ g) → K (a.put o.dst (.slice ao' (n + 1) cap')) w') :
    if Region.wanted o (yielded ops a.tmps) = true then Oper.wp P o a (w.alloc (.cells arr e)) K Q else E := by
  subst hn
  have hw : Region.wanted o (yielded ops a.tmps) = true := by simp [Region.wanted, hg]
  rw [if_pos hw]
  have hE : Ext w (w.alloc (.cells arr e)) := (ExtX.refl w).alloc _
  have hsz : w.heap.size + 1 = (w.alloc (.cells arr e)).heap.size := by simp
  obtain ⟨ao', cap', w', hr, h2, h3, h4⟩ := (h.ext0 hR hE).run_append (P := P) T hzs hR (by omega) (fun k hk => by have := hX k hk; omega) (some ⟨w.heap.size, 0, none⟩) 1 [u] [y] (at_new w arr e u harr) rfl
    (fun i hi _ => by have : i = 0 := by simpa using hi
                      subst this; exact hR.mono _ _ _ _ (mk_ext hE) hu) (by simpa using hroom) (by simpa using hmax) o.type
  unfold Oper.wp execOp
  rw [hop]
  simp only [resolve, invoke, builtin, Sem.run_bind, Sem.run_pure, Result.andThen_ok, List.map_toArray, List.map_cons, List.map_nil, hs, hx]
  rw [show ([y] : List α).length = 1 from rfl] at hr
  rw [hr]
  rw [List.length_append, show ([y] : List α).length = 1 from rfl]
  refine hK ao' cap' w' h2 ((ExtX.of hE).trans h3) ?_
  rcases h4 with h4 | ⟨g, h4, h5⟩
  · exact .inl h4
  · exact .inr ⟨g, h4, by omega⟩
end
end Go.Rep
