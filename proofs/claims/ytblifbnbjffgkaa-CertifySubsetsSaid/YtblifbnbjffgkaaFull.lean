/- append to a slice without room that is not the call's own: a new block. Conditions: none. -/
import Derived.Test.YtblifbnbjffgkaaGen2
import Derived.ArgAppend
namespace Go.Rep
open Go.RowKit

section
variable {P : Program} {ops : Array Oper} {Q : Exit → Act → World → Prop} {rest : List Oper} {a : Act} {w : World}
variable {α : Type} {R : Mem → Value → α → Prop} {sz : Nat} {X : Nat → Bool} {base : Nat} {e : TypeId} {ao : Option Addr} {cap : Nat} {l : List α}
variable {d : Option Tmp} {ty : TypeId} {ps : String} {af : Array Edge}

theorem mkun_fresh {w' : World} {g : Nat} (hE : Ext w w') (hg : w.heap.size ≤ g) : Le (mk X w) (mk (un X (some ⟨g, 0, none⟩)) w') :=
  mk_over hE (fun k _ hk => by simp [noY] at hk) fun k hk hz => by
    by_cases hx : X k = true
    · exact hx
    · have : g = k := by simpa [un, hx, ob] using hz
      omega
theorem grown_ext {w' : World} (h : w.grownBy w' none) : Ext w w' := ⟨h.os, h.tape, h.output, h.size, fun k hk _ => h.block k hk (by simp)⟩

/-- append(s, x) of one element, just laid in a block of its own, to a slice that has no room. -/
theorem st_append_full {t by_ : Nat} {z : Value} {arr : Array Value} {s x : Operand} (T : SliceT P t e sz by_ z) (hzs : z.cells.size = sz) (hR : Elem R sz) (hX : ∀ k, X k = true → k < w.heap.size)
    (hs : a.eval s = .slice ao l.length cap) (hx : a.eval x = .slice (some ⟨w.heap.size, 0, none⟩) 1 1) (hcap : cap ≤ l.length) (hnone : ao = none → l.length = 0 ∧ cap = 0) (h : Sl R sz (mk X w) ao l)
    (u : Value) (y : α) (harr : arr = u.cells) (hu : R (mk X w) u y) (hroom : (l.length + 1) * by_ ≤ 140737488355328) (hmax : l.length + 1 ≤ 9223372036854775807)
    (K : ∀ ao' cap' w', OL R sz X w.heap.size e w' ao' cap' (l ++ [y]) → Ext w w' → wpList P ops Q rest (a.put d (.slice ao' (l ++ [y]).length cap')) w') :
    wpList P ops Q (⟨d, .call { callee := .builtin .append, args := #[s, x], argTypes := #[t, t] }, ty, ps, af, none⟩ :: rest) a (w.alloc (.cells arr e)) := by
  have hE : Ext w (w.alloc (.cells arr e)) := (ExtX.refl w).alloc _
  obtain ⟨i, hi, hz, hsz, hby⟩ := info_parts T.info
  obtain ⟨us, h1, h2, h3⟩ := (h.mono hR.mono (mk_ext hE)).at_ hR
  have hus : ∀ v ∈ us ++ [u], v.cells.size = sz := by
    intro v hv
    rcases List.mem_append.1 hv with hv | hv
    · obtain ⟨i, hi, rfl⟩ := List.getElem_of_mem hv
      exact hR.size _ _ _ (h3 i hi (by omega))
    · rw [List.mem_singleton.1 hv]; exact hR.size _ _ _ hu
  have hone : ∀ v ∈ us ++ [u], ∀ c ∈ cellsL v, c.oneCell' = true := by
    intro v hv
    rcases List.mem_append.1 hv with hv | hv
    · obtain ⟨i, hi, rfl⟩ := List.getElem_of_mem hv
      exact hR.one _ _ _ (h3 i hi (by omega))
    · rw [List.mem_singleton.1 hv]; exact hR.one _ _ _ hu
  have hfl : (us.flatMap cellsL).length = l.length * sz := by rw [flat_length us (fun v hv => hus v (List.mem_append_left _ hv)), h1]
  have hnl : (cellsL u).length = 1 * sz := by simp [cellsL, hR.size _ _ _ hu]
  refine wpList_append_grows _ rfl s x t rfl e i z sz by_ T.und hi hz hsz hby hzs hR.pos ao l.length cap (us.flatMap cellsL) hs hnone hfl (fun b hb j v hj => ?_) ⟨w.heap.size, 0, none⟩ 1 1 (cellsL u) hx hnl (fun j v hj => ?_) (fun c hc => hone u (by simp) c hc) (by omega) (by unfold maxLen; omega) hroom ?_
  · have hlt := (List.getElem?_eq_some_iff.1 hj).1
    have hpos := hR.pos
    have hl0 : 0 < l.length := by
      by_cases hl0 : l.length = 0
      · rw [hfl, hl0] at hlt; omega
      · omega
    obtain ⟨g, off, hg⟩ := h.1 hl0
    subst hb
    have hb : b = ⟨g, off, none⟩ := by simpa using hg
    subst hb
    rw [← adr_addr rfl]; exact h2.2 j v hj
  · have := (at_new w arr e u harr).2 j v (by simpa using hj)
    rw [← adr_addr rfl]; exact this
  · intro v' w' hown hgr
    obtain ⟨q1, q2⟩ := hown
    have hE2 : Ext w w' := hE.trans (grown_ext hgr)
    rcases q2 with ⟨rfl, hz0⟩ | ⟨g, c, cur, rfl, q3, q4, q5, q6, q7, q8⟩
    · exact absurd hz0 (by omega)
    · have hll : (l ++ [y]).length = l.length + 1 := by simp
      have hOL : OL R sz X w.heap.size e w' (some ⟨g, 0, none⟩) c (l ++ [y]) := by
        refine ⟨fun k hk => ?_, us ++ [u], by simp [h1], hus, hone, ?_, fun i hi hi' => ?_⟩
        · have : g = k := by simpa [ob] using hk
          cases hh : X k
          · rfl
          · have h5 := hX k hh
            simp at q3; omega
        · rw [hll]
          refine ⟨by rw [flat_length _ hus]; simp [h1], .inr ⟨g, c, cur, rfl, by simp at q3; omega, q4, q5, q6, q7, ?_⟩⟩
          rw [List.flatMap_append]; simpa using q8
        · have hle : Le (mk X w) (mk (un X (some ⟨g, 0, none⟩)) w') := mkun_fresh hE2 (by simp at q3; omega)
          by_cases hlt : i < us.length
          · simp only [List.getElem_append_left hlt, List.getElem_append_left (show i < l.length by omega)]
            exact hR.mono _ _ _ _ (mkun_fresh (w := w.alloc (.cells arr e)) (w' := w') (grown_ext hgr) q3) (h3 i hlt (by omega))
          · have hi2 : i = us.length := by simp at hi; omega
            subst hi2
            have := hR.mono _ _ _ _ hle hu
            simpa [List.getElem_append_right, h1] using this
      have := K _ _ _ hOL hE2
      rw [hll] at this
      exact this

/-- append(s, x...) of a list, to a slice that has no room. -/
theorem st_appendl_full {t by_ : Nat} {z : Value} {s x : Operand} {as : Option Addr} {cs n m : Nat} (T : SliceT P t e sz by_ z) (hzs : z.cells.size = sz) (hR : Elem R sz) (hX : ∀ k, X k = true → k < w.heap.size)
    (xs : List α) (hs : a.eval s = .slice ao n cap) (hx : a.eval x = .slice as m cs) (hn : n = l.length) (hm : m = xs.length) (hpos : 0 < xs.length) (hcap : cap ≤ l.length) (h : Sl R sz (mk X w) ao l) (hxs : Sl R sz (mk X w) as xs)
    (hroom : (l.length + xs.length) * by_ ≤ 140737488355328) (hmax : l.length + xs.length ≤ 9223372036854775807)
    (K : ∀ ao' cap' w', OL R sz X w.heap.size e w' ao' cap' (l ++ xs) → Ext w w' → wpList P ops Q rest (a.put d (.slice ao' (l ++ xs).length cap')) w') :
    wpList P ops Q (⟨d, .call { callee := .builtin .append, args := #[s, x], argTypes := #[t, t] }, ty, ps, af, none⟩ :: rest) a w := by
  subst hn; subst hm
  obtain ⟨i, hi, hz, hsz, hby⟩ := info_parts T.info
  obtain ⟨us, h1, h2, h3⟩ := h.at_ hR
  obtain ⟨vs, g1, g2, g3⟩ := hxs.at_ hR
  have hus : ∀ v ∈ us ++ vs, v.cells.size = sz := by
    intro v hv
    rcases List.mem_append.1 hv with hv | hv
    · obtain ⟨i, hi, rfl⟩ := List.getElem_of_mem hv
      exact hR.size _ _ _ (h3 i hi (by omega))
    · obtain ⟨i, hi, rfl⟩ := List.getElem_of_mem hv
      exact hR.size _ _ _ (g3 i hi (by omega))
  have hone : ∀ v ∈ us ++ vs, ∀ c ∈ cellsL v, c.oneCell' = true := by
    intro v hv
    rcases List.mem_append.1 hv with hv | hv
    · obtain ⟨i, hi, rfl⟩ := List.getElem_of_mem hv
      exact hR.one _ _ _ (h3 i hi (by omega))
    · obtain ⟨i, hi, rfl⟩ := List.getElem_of_mem hv
      exact hR.one _ _ _ (g3 i hi (by omega))
  have hfl : (us.flatMap cellsL).length = l.length * sz := by rw [flat_length us (fun v hv => hus v (List.mem_append_left _ hv)), h1]
  have hnl : (vs.flatMap cellsL).length = xs.length * sz := by rw [flat_length vs (fun v hv => hus v (List.mem_append_right _ hv)), g1]
  obtain ⟨sb, so, rfl⟩ := hxs.1 hpos
  refine wpList_append_grows _ rfl s x t rfl e i z sz by_ T.und hi hz hsz hby hzs hR.pos ao l.length cap (us.flatMap cellsL) hs (fun e => by
    have : l.length = 0 := by
      by_cases h0 : 0 < l.length
      · obtain ⟨b, off, hb⟩ := h.1 h0
        rw [e] at hb; simp at hb
      · omega
    exact ⟨this, by omega⟩) hfl (fun b hb j v hj => ?_) ⟨sb, so, none⟩ xs.length cs (vs.flatMap cellsL) hx hnl (fun j v hj => ?_) (fun c hc => by
      obtain ⟨v, hv, hcv⟩ := List.mem_flatMap.1 hc
      exact hone v (List.mem_append_right _ hv) c hcv) (by omega) (by unfold maxLen; omega) hroom ?_
  · have hlt := (List.getElem?_eq_some_iff.1 hj).1
    have hpos := hR.pos
    have hl0 : 0 < l.length := by
      by_cases hl0 : l.length = 0
      · rw [hfl, hl0] at hlt; omega
      · omega
    obtain ⟨g, off, hg⟩ := h.1 hl0
    subst hb
    have hb : b = ⟨g, off, none⟩ := by simpa using hg
    subst hb
    rw [← adr_addr rfl]; exact h2.2 j v hj
  · rw [← adr_addr rfl]; exact g2.2 j v hj
  · intro v' w' hown hgr
    obtain ⟨q1, q2⟩ := hown
    have hE2 : Ext w w' := grown_ext hgr
    rcases q2 with ⟨rfl, hz0⟩ | ⟨g, c, cur, rfl, q3, q4, q5, q6, q7, q8⟩
    · exact absurd hz0 (by omega)
    · have hll : (l ++ xs).length = l.length + xs.length := by simp
      have hOL : OL R sz X w.heap.size e w' (some ⟨g, 0, none⟩) c (l ++ xs) := by
        refine ⟨fun k hk => ?_, us ++ vs, by simp [h1, g1], hus, hone, ?_, fun i hi hi' => ?_⟩
        · have : g = k := by simpa [ob] using hk
          cases hh : X k
          · rfl
          · have h5 := hX k hh
            omega
        · rw [hll]
          refine ⟨by rw [flat_length _ hus]; simp [h1, g1], .inr ⟨g, c, cur, rfl, q3, q4, q5, q6, q7, ?_⟩⟩
          rw [List.flatMap_append]; simpa using q8
        · have hle : Le (mk X w) (mk (un X (some ⟨g, 0, none⟩)) w') := mkun_fresh hE2 q3
          by_cases hlt : i < us.length
          · simp only [List.getElem_append_left hlt, List.getElem_append_left (show i < l.length by omega)]
            exact hR.mono _ _ _ _ hle (h3 i hlt (by omega))
          · have hb1 : i - us.length < vs.length := by simp at hi; omega
            have := hR.mono _ _ _ _ hle (g3 (i - us.length) hb1 (by omega))
            simpa [List.getElem_append_right (show us.length ≤ i by omega), List.getElem_append_right (show l.length ≤ i by omega), h1] using this
      have := K _ _ _ hOL hE2
      rw [hll] at this
      exact this

/-- append of nothing. -/
theorem st_append_nothing {t : TypeId} {e : TypeId} {s x : Operand} {as : Option Addr} {cs n m : Nat} {ti : TypeInfo} (hund : P.underlying t = some (.slice e)) (hi : P.info? e = some ti) (hs : a.eval s = .slice ao n cap) (hx : a.eval x = .slice as m cs) (hm : m = 0) (hc : n ≤ cap)
    (K : wpList P ops Q rest (a.put d (.slice ao n cap)) w) :
    wpList P ops Q (⟨d, .call { callee := .builtin .append, args := #[s, x], argTypes := #[t, t] }, ty, ps, af, none⟩ :: rest) a w := by
  refine wpList_plain rfl fun K' hK' => ?_
  subst hm
  unfold Oper.wp execOp
  simp only [resolve, invoke, builtin, Sem.run_bind, Sem.run_pure, Result.andThen_ok, List.map_toArray, List.map_cons, List.map_nil, hs, hx]
  have hr : (Builtin.append_ #[t, t] ty #[.slice ao n cap, .slice as 0 cs]).run P w = .ok (.slice ao n cap) w := by
    cases as with
    | none => cases ao <;> simp [Builtin.append_, run_underlying hund, sizeOf, typeInfo, hi, Builtin.lenOf, Builtin.firstCells, hc, storeCells]
    | some as => cases ao <;> simp [Builtin.append_, run_underlying hund, sizeOf, typeInfo, hi, Builtin.lenOf, Builtin.firstCells, loadCells, loadCellsFrom, hc, storeCells]
  rw [hr]
  exact hK' _ _ K

/-- The elements of an owned list, read outside of its own block. -/
theorem OL.slR (hR : Elem R sz) (h : OL R sz X base e w ao cap l) : Sl (fun _ u x => R (mk (un X ao) w) u x) sz (mk X w) ao l := by
  refine ⟨h.hd, fun i hi => ?_⟩
  have hf := h.form
  have hx := h.1
  obtain ⟨us, h1, h2, _, h3, h5⟩ := h.cells
  have hi' : i < us.length := by omega
  refine ⟨us[i], h2 _ (List.getElem_mem _), fun j hj => ?_, h5 i hi' hi⟩
  have hsz : us[i].cells.size = sz := h2 _ (List.getElem_mem _)
  have hget := flat_get us i j hi' h2 (by omega)
  have hc : (cellsL us[i])[j]? = some us[i].cells[j] := by simp [cellsL, hj]
  rw [hc] at hget
  have hg := (h3 _ _ hget).1
  unfold mk
  have : X (adr ao (i * sz + j)).block = false := by
    rcases hf with ⟨_, _, rfl⟩ | ⟨g, cur, rfl, _⟩
    · simp at hi
    · exact hx _ (by simp [ob, adr])
  rw [this]
  simpa using hg

/-- A store of one cell of an element: what can be read afterwards. -/
theorem OL.field (hR : Elem R sz) (h : OL R sz X base e w ao cap l) (i j : Nat) (hi : i < l.length) (hj : j < sz) (v : Value) (y : α)
    (hu : ∀ u, R (mk (un X ao) w) u l[i] → ∃ u', cellsL u' = (cellsL u).set j v ∧ R (mk (un X ao) w) u' y) :
    (∃ v0, w.cell? (adr ao (i * sz + j)) = some v0) ∧ w.frozen? (adr ao (i * sz + j)) = false ∧ Sl R sz (mk X (w.setCell (adr ao (i * sz + j)) v)) ao (l.set i y) ∧ ExtX (ob ao) w (w.setCell (adr ao (i * sz + j)) v) := by
  obtain ⟨us, h1, h2, h22, h3, h5⟩ := h.cells
  have hsub : (i + 1) * sz ≤ us.length * sz := Nat.mul_le_mul_right _ (by omega)
  rw [Nat.succ_mul] at hsub
  have hcell : ∀ k (hk : k < us.length) q (hq : q < sz), w.cell? (adr ao (k * sz + q)) = some (us[k].cells[q]'(by rw [h2 _ (List.getElem_mem _)]; exact hq)) ∧ w.frozen? (adr ao (k * sz + q)) = false := by
    intro k hk q hq
    have hz : us[k].cells.size = sz := h2 _ (List.getElem_mem _)
    have hg := flat_get us k q hk h2 hq
    have hc : (cellsL us[k])[q]? = some (us[k].cells[q]'(by rw [hz]; exact hq)) := by simp [cellsL, hz, hq]
    rw [hc] at hg
    exact h3 _ _ hg
  have hE : ExtX (ob ao) w (w.setCell (adr ao (i * sz + j)) v) :=
    ⟨rfl, rfl, rfl, by simp [World.setCell], fun k hk hy => Below.heap_setCell _ _ _ _ (fun e => by
      have hf := h.form
      rcases hf with ⟨_, _, rfl⟩ | ⟨g, cur, rfl, _⟩
      · simp at hi
      · subst e; simp [ob, adr] at hy)⟩
  have hX : ∀ q, X (adr ao q).block = false := by
    intro q
    have hf := h.form
    have hx := h.1
    rcases hf with ⟨_, _, rfl⟩ | ⟨g, cur, rfl, _⟩
    · simp at hi
    · exact hx _ (by simp [ob, adr])
  have hi' : i < us.length := by omega
  refine ⟨⟨_, (hcell i hi' j hj).1⟩, (hcell i hi' j hj).2, ⟨by simpa using h.hd, fun k hk => ?_⟩, hE⟩
  have hk' : k < us.length := by simpa [h1] using hk
  have hle : Le (mk (un X ao) w) (mk X (w.setCell (adr ao (i * sz + j)) v)) := mk_over hE (fun k _ hk => un_right hk) fun k _ hk => un_left hk
  by_cases hki : k = i
  · subst hki
    obtain ⟨u', hu1, hu2⟩ := hu us[k] (h5 k hk' (by omega))
    have hsz' := hR.size _ _ _ hu2
    refine ⟨u', hsz', fun q hq => ?_, by simpa using hR.mono _ _ _ _ hle hu2⟩
    have hq' : q < sz := by omega
    have hget : (cellsL u')[q]? = some u'.cells[q] := by simp [cellsL, hq]
    rw [hu1, List.getElem?_set] at hget
    unfold mk
    rw [hX]
    by_cases hqj : j = q
    · subst hqj
      rw [if_pos rfl, if_pos (by simp [cellsL, h2 _ (List.getElem_mem hk'), hj])] at hget
      have : u'.cells[j] = v := by simpa using hget.symm
      rw [this]
      exact World.cell?_setCell_same' w _ v (by rw [(hcell k hk' j hj).1]; rfl)
    · rw [if_neg hqj] at hget
      have hc := (hcell k hk' q hq').1
      have : us[k].cells[q]'(by rw [h2 _ (List.getElem_mem _)]; exact hq') = u'.cells[q] := by
        simpa [cellsL] using (List.getElem?_eq_some_iff.1 hget).2
      rw [this] at hc
      rw [← hc]
      exact World.cell?_setCell_other w _ _ v (by simp [adr, hqj])
  · have hz : us[k].cells.size = sz := h2 _ (List.getElem_mem _)
    refine ⟨us[k], hz, fun q hq => ?_, by simpa [List.getElem_set, Ne.symm hki] using hR.mono _ _ _ _ hle (h5 k hk' (by simpa using hk))⟩
    have hc := (hcell k hk' q (by omega)).1
    unfold mk
    rw [hX, ← hc]
    refine World.cell?_setCell_other w _ _ v ?_
    have hne : k * sz + q ≠ i * sz + j := by
      intro he
      rcases Nat.lt_or_gt_of_ne hki with hlt | hlt
      · have := Nat.mul_le_mul_right sz (show k + 1 ≤ i by omega)
        rw [Nat.succ_mul] at this; omega
      · have := Nat.mul_le_mul_right sz (show i + 1 ≤ k by omega)
        rw [Nat.succ_mul] at this; omega
    simp [adr, hne]

/-- A store of one cell, its address written otherwise. -/
theorem st_cell {t : TypeId} {x y : Operand} {A : Addr} {v v0 : Value} (hT : TyI P t 1) (hx : a.eval x = .pointer (some A)) (hy : a.eval y = v) (hv : v.cells = #[v]) (hone : v.oneCell' = true) (hc : w.cell? A = some v0) (hf : w.frozen? A = false)
    (K : wpList P ops Q rest (a.put d undef) (w.setCell A v)) :
    wpList P ops Q (⟨d, .store t x y, ty, ps, af, none⟩ :: rest) a w := by
  refine wpList_plain rfl fun K' hK' => ?_
  obtain ⟨ti, ht, hts⟩ := hT
  unfold Oper.wp
  subst hy
  have hr := run_store P w A (a.eval y) .plain hone
  rw [hc, hf] at hr
  simp only [Bool.false_eq_true, if_false] at hr
  simp [execOp, hx, Instr.storeAt, Instr.sureAddr, storeVar, sizeOf, typeInfo, ht, hts, hv, Result.andThen, storeCells, Addr.add_zero', hr]
  exact hK' _ _ K

theorem run_slice_upto {t by_ : Nat} {z : Value} (T : SliceT P t e sz by_ z) (len cap i : Nat) (k1 k2 : IntKind) (h : i ≤ cap) (w : World) :
    (Instr.sliceAt t (.slice ao len cap) none (some (.int k1 (i : Int))) (some (.int k2 (i : Int)))).run P w = .ok (.slice ao i i) w := by
  obtain ⟨ti, hi, hz, hsz, hby⟩ := info_parts T.info
  have h1' : (i : Int) ≤ cap := by omega
  simp [Instr.sliceAt, Instr.slice, run_underlying T.und, Instr.sliceBounds, run_sliceBound, h1', sizeOf, typeInfo, hi]
  cases ao <;> simp [Addr.add_zero']

theorem run_slice_full {t by_ : Nat} {z : Value} (T : SliceT P t e sz by_ z) (len cap : Nat) (k1 k2 : IntKind) (h : len ≤ cap) (w : World) :
    (Instr.sliceAt t (.slice ao len cap) none (some (.int k1 (len : Int))) (some (.int k2 (len : Int)))).run P w = .ok (.slice ao len len) w := by
  obtain ⟨ti, hi, hz, hsz, hby⟩ := info_parts T.info
  have h1' : (len : Int) ≤ cap := by omega
  simp [Instr.sliceAt, Instr.slice, run_underlying T.und, Instr.sliceBounds, run_sliceBound, h1', sizeOf, typeInfo, hi, hsz]
  cases ao <;> simp [Addr.add_zero']

/-- 'x[:len(x):len(x)]'. -/
theorem st_full {t by_ : Nat} {z : Value} {x hi_ mx : Operand} {k1 k2 : IntKind} {m n : Int} (T : SliceT P t e sz by_ z) (len : Nat) (hx : a.eval x = .slice ao len cap)
    (hhi : a.eval hi_ = .int k1 m) (hm : m = (len : Int)) (hmx : a.eval mx = .int k2 n) (hn : n = (len : Int)) (hc : len ≤ cap)
    (K : wpList P ops Q rest (a.put d (.slice ao len len)) w) :
    wpList P ops Q (⟨d, .slice t x none (some hi_) (some mx), ty, ps, af, none⟩ :: rest) a w := by
  refine wpList_plain rfl fun K' hK' => ?_
  subst hm; subst hn
  have hr := run_slice_full (P := P) (ao := ao) T len cap k1 k2 hc w
  unfold Oper.wp
  simp [execOp, hx, hhi, hmx, hr, Result.andThen]
  exact hK' _ _ K
end
end Go.Rep
