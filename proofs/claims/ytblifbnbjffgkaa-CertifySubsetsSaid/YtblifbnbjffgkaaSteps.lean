/- Steps of the walk over lists in slices: append, make, store, a slice of a slice, loads. Conditions: none. -/
import Derived.Test.YtblifbnbjffgkaaOwn
namespace Go.Rep
open Go.RowKit

section
variable {P : Program} {ops : Array Oper} {Q : Exit → Act → World → Prop} {rest : List Oper} {a : Act} {w : World}
variable {α : Type} {R : Mem → Value → α → Prop} {sz : Nat} {X : Nat → Bool} {base : Nat} {e : TypeId} {ao : Option Addr} {cap : Nat} {l : List α}
variable {d : Option Tmp} {ty : TypeId} {ps : String} {af : Array Edge}

/-- A list laid in a new block. -/
theorem OL.lit (hR : Elem R sz) (hX : ∀ k, X k = true → k < w.heap.size) (hbase : base ≤ w.heap.size) (us : List Value) (l : List α) (arr : Array Value) (harr : arr = (us.flatMap cellsL).toArray) (hlen : us.length = l.length)
    (hu : ∀ i (hi : i < us.length) (hi' : i < l.length), R (mk X w) us[i] l[i]) (hmax : l.length ≤ 9223372036854775807) :
    OL R sz X base e (w.alloc (.cells arr e)) (some ⟨w.heap.size, 0, none⟩) l.length l := by
  subst harr
  have hsz : ∀ u ∈ us, u.cells.size = sz := by
    intro v hv
    obtain ⟨i, hi, rfl⟩ := List.getElem_of_mem hv
    exact hR.size _ _ _ (hu i hi (by omega))
  have hE : Ext w (w.alloc (.cells (us.flatMap cellsL).toArray e)) := (ExtX.refl w).alloc _
  refine ⟨fun k hk => ?_, us, hlen, hsz, ?_, ⟨by rw [flat_length us hsz, hlen], .inr ⟨w.heap.size, _, _, rfl, hbase, heap_alloc_new w _, Nat.le_refl _, by unfold maxLen; exact hmax, by simp [flat_length us hsz, hlen], ?_⟩⟩, fun i hi hi' => ?_⟩
  · have : w.heap.size = k := by simpa [ob] using hk
    cases hh : X k
    · rfl
    · have := hX k hh; omega
  · intro v hv
    obtain ⟨i, hi, rfl⟩ := List.getElem_of_mem hv
    exact hR.one _ _ _ (hu i hi (by omega))
  · rw [List.take_of_length_le]
    simp [flat_length us hsz, hlen]
  · refine hR.mono _ _ _ _ (mk_over hE (fun k _ hk => by simp [noY] at hk) fun k hk hz => ?_) (hu i hi hi')
    by_cases hx : X k = true
    · exact hx
    · have : w.heap.size = k := by simpa [un, hx, ob] using hz
      omega

theorem mk_new (X : Nat → Bool) (w : World) (o : Obj) : Le (mk X w) (mk (un X (some ⟨w.heap.size, 0, none⟩)) (w.alloc o)) :=
  mk_over ((ExtX.refl (Y := noY) w).alloc o) (fun k _ hk => by simp [noY] at hk) fun k hk hz => by
    by_cases hx : X k = true
    · exact hx
    · have : w.heap.size = k := by simpa [un, hx, ob] using hz
      omega

theorem at_new (w : World) (arr : Array Value) (e : TypeId) (u : Value) (harr : arr = u.cells) : At (w.alloc (.cells arr e)) (some ⟨w.heap.size, 0, none⟩) [u] := by
  subst harr
  refine ⟨fun _ => ⟨_, _, rfl⟩, fun j c hj => ?_⟩
  simp only [List.flatMap_cons, List.flatMap_nil, List.append_nil, cellsL, Array.getElem?_toList] at hj
  have h0 : adr (some ⟨w.heap.size, 0, none⟩) j = ⟨w.heap.size, j, none⟩ := by simp [adr]
  have h1 := heap_alloc_new w (.cells u.cells e)
  rw [h0]
  unfold World.cell?
  rw [h1]
  simpa using hj

/-- append(s, x) of one element, just laid in a block of its own. -/
theorem st_append1 {t by_ : Nat} {z : Value} {arr : Array Value} {s x : Operand} (T : SliceT P t e sz by_ z) (hzs : z.cells.size = sz) (hR : Elem R sz) (hbase : base ≤ w.heap.size) (hX : ∀ k, X k = true → k < w.heap.size)
    (hs : a.eval s = .slice ao l.length cap) (hx : a.eval x = .slice (some ⟨w.heap.size, 0, none⟩) 1 1) (h : OL R sz X base e w ao cap l)
    (u : Value) (y : α) (harr : arr = u.cells) (hu : R (mk (un X ao) w) u y) (hroom : (l.length + 1) * by_ ≤ 140737488355328) (hmax : l.length + 1 ≤ 9223372036854775807)
    (K : ∀ ao' cap' w', OL R sz X base e w' ao' cap' (l ++ [y]) → ExtX (ob ao) w w' → (ao' = ao ∨ ∃ g, ao' = some ⟨g, 0, none⟩ ∧ w.heap.size ≤ g) → wpList P ops Q rest (a.put d (.slice ao' (l ++ [y]).length cap')) w') :
    wpList P ops Q (⟨d, .call { callee := .builtin .append, args := #[s, x], argTypes := #[t, t] }, ty, ps, af, none⟩ :: rest) a (w.alloc (.cells arr e)) := by
  refine wpList_plain rfl fun K' hK' => ?_
  have hE : Ext w (w.alloc (.cells arr e)) := (ExtX.refl w).alloc _
  have hsz : w.heap.size + 1 = (w.alloc (.cells arr e)).heap.size := by simp
  obtain ⟨ao', cap', w', hr, h2, h3, h4⟩ := (h.ext0 hR hE).run_append (P := P) T hzs hR (by omega) (fun k hk => by have := hX k hk; omega) (some ⟨w.heap.size, 0, none⟩) 1 [u] [y] (at_new w arr e u harr) rfl
    (fun i hi _ => by have : i = 0 := by simpa using hi
                      subst this; exact hR.mono _ _ _ _ (mk_ext hE) hu) (by simpa using hroom) (by simpa using hmax) ty
  unfold Oper.wp execOp
  simp only [resolve, invoke, builtin, Sem.run_bind, Sem.run_pure, Result.andThen_ok, List.map_toArray, List.map_cons, List.map_nil, hs, hx]
  rw [show ([y] : List α).length = 1 from rfl] at hr
  rw [hr]
  refine hK' _ _ (K ao' cap' w' h2 ((ExtX.of hE).trans h3) ?_)
  rcases h4 with h4 | ⟨g, h4, h5⟩
  · exact .inl h4
  · exact .inr ⟨g, h4, by omega⟩

/-- append(s, x...) of a list that is read outside of s's own block. -/
theorem st_appendl {t by_ : Nat} {z : Value} {s x : Operand} {as : Option Addr} {cs : Nat} (T : SliceT P t e sz by_ z) (hzs : z.cells.size = sz) (hR : Elem R sz) (hbase : base ≤ w.heap.size) (hX : ∀ k, X k = true → k < w.heap.size)
    (xs : List α) (hs : a.eval s = .slice ao l.length cap) (hx : a.eval x = .slice as xs.length cs) (h : OL R sz X base e w ao cap l)
    (hxs : Sl R sz (mk (un X ao) w) as xs) (hroom : (l.length + xs.length) * by_ ≤ 140737488355328) (hmax : l.length + xs.length ≤ 9223372036854775807)
    (K : ∀ ao' cap' w', OL R sz X base e w' ao' cap' (l ++ xs) → ExtX (ob ao) w w' → (ao' = ao ∨ ∃ g, ao' = some ⟨g, 0, none⟩ ∧ w.heap.size ≤ g) → wpList P ops Q rest (a.put d (.slice ao' (l ++ xs).length cap')) w') :
    wpList P ops Q (⟨d, .call { callee := .builtin .append, args := #[s, x], argTypes := #[t, t] }, ty, ps, af, none⟩ :: rest) a w := by
  refine wpList_plain rfl fun K' hK' => ?_
  obtain ⟨us, h1, h2, h3⟩ := hxs.at_ hR
  obtain ⟨ao', cap', w', hr, h2, h3, h4⟩ := h.run_append (P := P) T hzs hR hbase hX as cs us xs h2 h1 h3 hroom hmax ty
  unfold Oper.wp execOp
  simp only [resolve, invoke, builtin, Sem.run_bind, Sem.run_pure, Result.andThen_ok, List.map_toArray, List.map_cons, List.map_nil, hs, hx, hr]
  exact hK' _ _ (K ao' cap' w' h2 h3 h4)

/-- make of a slice. -/
theorem st_make {t by_ : Nat} {z : Value} {x y : Operand} {kl kc : IntKind} {m : Int} (T : SliceT P t e sz by_ z) (hR : Elem R sz) (x0 : α) (hz : ∀ h, R h z x0) (X : Nat → Bool) (hX : ∀ k, X k = true → k < w.heap.size) (base : Nat) (hbase : base ≤ w.heap.size)
    (n : Nat) (hl : a.eval x = .int kl m) (hc : a.eval y = .int kc m) (hm : m = (n : Int)) (hroom : by_ * n ≤ 281474976710656) (hmax : n ≤ 9223372036854775807)
    (K : ∀ ao w', OL R sz X base e w' ao n (List.replicate n x0) → Ext w w' → wpList P ops Q rest (a.put d (.slice ao n n)) w') :
    wpList P ops Q (⟨d, .makeSlice t x y, ty, ps, af, none⟩ :: rest) a w := by
  refine wpList_plain rfl fun K' hK' => ?_
  subst hm
  obtain ⟨ao, w', hr, h2, h3⟩ := OL.run_make (P := P) T hR x0 hz hX hbase kl kc n hroom hmax
  unfold Oper.wp
  simp [execOp, hl, hc, hr, Result.andThen]
  exact hK' _ _ (K ao w' h2 h3)

/-- A store of an element of an owned list. -/
theorem st_store {t : TypeId} {x y : Operand} {k : Nat} (hT : TyI P t sz) (hR : Elem R sz) (i : Nat) (hx : a.eval x = .pointer (some (adr ao k))) (hk : k = i * sz)
    (h : OL R sz X base e w ao cap l) (hi : i < l.length) (u : Value) (v : α) (hy : a.eval y = u) (hu : R (mk (un X ao) w) u v)
    (K : ∀ w', OL R sz X base e w' ao cap (l.set i v) → ExtX (ob ao) w w' → wpList P ops Q rest (a.put d undef) w') :
    wpList P ops Q (⟨d, .store t x y, ty, ps, af, none⟩ :: rest) a w := by
  refine wpList_plain rfl fun K' hK' => ?_
  subst hk
  obtain ⟨ti, ht, hts⟩ := hT
  obtain ⟨w', hr, h2, h3⟩ := h.run_store (P := P) ht hts hR i hi u v hu
  unfold Oper.wp
  simp [execOp, hx, hy, Instr.storeAt, Instr.sureAddr, hr, Result.andThen]
  exact hK' _ _ (K w' h2 h3)


/-- The address of a slice of a slice. -/
def subAddr (ao : Option Addr) (i m sz : Nat) : Option Addr := if m = i then ao else ao.map (·.add (i * sz))

theorem Sl.sub {h : Mem} (s : Sl R sz h ao l) (i j m : Nat) (hij : i ≤ j) (hjm : j ≤ m) (hjl : j ≤ l.length) : Sl R sz h (subAddr ao i m sz) ((l.take j).drop i) := by
  refine ⟨fun hn => ?_, fun k hk => ?_⟩
  · simp at hn
    obtain ⟨b, off, rfl⟩ := s.1 (by omega)
    have hm : ¬ m = i := by omega
    simp [subAddr, hm, Addr.add_lit]
  · simp at hk
    obtain ⟨b, off, rfl⟩ := s.1 (by omega)
    have hm : ¬ m = i := by omega
    obtain ⟨u, h1, h2, h3⟩ := s.2 (i + k) (by omega)
    refine ⟨u, h1, fun q hq => ?_, by simpa using h3⟩
    have := h2 q hq
    simp only [subAddr, hm, if_false, Option.map_some, Addr.add_lit, adr, Option.getD_some] at this ⊢
    rw [← this, Nat.add_mul]
    congr 2
    omega

theorem run_slice_i {t by_ : Nat} {z : Value} (T : SliceT P t e sz by_ z) (len cap : Nat) (k1 : IntKind) (i : Nat) (h1 : i ≤ len) (_h2 : len ≤ cap) (w : World) :
    (Instr.sliceAt t (.slice ao len cap) (some (.int k1 (i : Int))) none none).run P w = .ok (.slice (subAddr ao i cap sz) (len - i) (cap - i)) w := by
  obtain ⟨ti, hi, hz, hsz, hby⟩ := info_parts T.info
  have h1' : (i : Int) ≤ len := by omega
  simp [Instr.sliceAt, Instr.slice, run_underlying T.und, Instr.sliceBounds, run_sliceBound, h1', sizeOf, typeInfo, hi, hsz, subAddr]

theorem run_slice_ij {t by_ : Nat} {z : Value} (T : SliceT P t e sz by_ z) (len cap : Nat) (k1 k2 : IntKind) (i j : Nat) (h1 : i ≤ j) (h2 : j ≤ cap) (w : World) :
    (Instr.sliceAt t (.slice ao len cap) (some (.int k1 (i : Int))) (some (.int k2 (j : Int))) none).run P w = .ok (.slice (subAddr ao i cap sz) (j - i) (cap - i)) w := by
  obtain ⟨ti, hi, hz, hsz, hby⟩ := info_parts T.info
  have h1' : (i : Int) ≤ j := by omega
  have h2' : (j : Int) ≤ cap := by omega
  simp [Instr.sliceAt, Instr.slice, run_underlying T.und, Instr.sliceBounds, run_sliceBound, h1', h2', sizeOf, typeInfo, hi, hsz, subAddr]

/-- 'x[i:]' of a list. -/
theorem st_from {t by_ : Nat} {z : Value} {x lo : Operand} {k1 : IntKind} {m : Int} {M : Mem} (T : SliceT P t e sz by_ z) (i : Nat) (hx : a.eval x = .slice ao l.length cap) (hlo : a.eval lo = .int k1 m) (hm : m = (i : Int))
    (h : Sl R sz M ao l) (hi : i ≤ l.length) (hc : l.length ≤ cap)
    (K : ∀ ao', Sl R sz M ao' (l.drop i) → wpList P ops Q rest (a.put d (.slice ao' (l.drop i).length (cap - i))) w) :
    wpList P ops Q (⟨d, .slice t x (some lo) none none, ty, ps, af, none⟩ :: rest) a w := by
  refine wpList_plain rfl fun K' hK' => ?_
  subst hm
  have hr := run_slice_i (P := P) (ao := ao) T l.length cap k1 i hi hc w
  have hs := h.sub i l.length cap hi hc (Nat.le_refl _)
  rw [List.take_length] at hs
  have := K _ hs
  rw [List.length_drop] at this
  unfold Oper.wp
  simp [execOp, hx, hlo, hr, Result.andThen]
  exact hK' _ _ this

/-- 'x[i:j]' of a list. -/
theorem st_fromto {t by_ : Nat} {z : Value} {x lo hi_ : Operand} {k1 k2 : IntKind} {m n : Int} {M : Mem} (T : SliceT P t e sz by_ z) (i j : Nat) (hx : a.eval x = .slice ao l.length cap) (hlo : a.eval lo = .int k1 m) (hm : m = (i : Int))
    (hhi : a.eval hi_ = .int k2 n) (hn : n = (j : Int)) (h : Sl R sz M ao l) (hij : i ≤ j) (hj : j ≤ l.length) (hc : l.length ≤ cap)
    (K : ∀ ao', Sl R sz M ao' ((l.take j).drop i) → wpList P ops Q rest (a.put d (.slice ao' ((l.take j).drop i).length (cap - i))) w) :
    wpList P ops Q (⟨d, .slice t x (some lo) (some hi_) none, ty, ps, af, none⟩ :: rest) a w := by
  refine wpList_plain rfl fun K' hK' => ?_
  subst hm; subst hn
  have hr := run_slice_ij (P := P) (ao := ao) T l.length cap k1 k2 i j hij (by omega) w
  have hs := h.sub i j cap hij (by omega) hj
  have := K _ hs
  have e1 : ((l.take j).drop i).length = j - i := by simp; omega
  rw [e1] at this
  unfold Oper.wp
  simp [execOp, hx, hlo, hhi, hr, Result.andThen]
  exact hK' _ _ this
/-- A store of a number into an owned list of numbers. -/
theorem st_storeNat {t : TypeId} {x y : Operand} {k : Nat} {kd : IntKind} {l : List Nat} {m : Int} (hT : TyI P t 1) (i : Nat) (v : Nat) (hx : a.eval x = .pointer (some (adr ao k))) (hk : k = i)
    (h : OL (NatIn kd) 1 X base e w ao cap l) (hi : i < l.length) (hy : a.eval y = .int kd m) (hm : m = (v : Int))
    (K : ∀ w', OL (NatIn kd) 1 X base e w' ao cap (l.set i v) → ExtX (ob ao) w w' → wpList P ops Q rest (a.put d undef) w') :
    wpList P ops Q (⟨d, .store t x y, ty, ps, af, none⟩ :: rest) a w :=
  st_store hT (NatIn.elem kd) i hx (by omega) h hi (.int kd m) v hy (by rw [hm]; rfl) K
theorem st_storeInt {t : TypeId} {x y : Operand} {k : Nat} {kd : IntKind} {l : List Int} {m : Int} (hT : TyI P t 1) (i : Nat) (v : Int) (hx : a.eval x = .pointer (some (adr ao k))) (hk : k = i)
    (h : OL (IntIn kd) 1 X base e w ao cap l) (hi : i < l.length) (hy : a.eval y = .int kd m) (hm : m = v)
    (K : ∀ w', OL (IntIn kd) 1 X base e w' ao cap (l.set i v) → ExtX (ob ao) w w' → wpList P ops Q rest (a.put d undef) w') :
    wpList P ops Q (⟨d, .store t x y, ty, ps, af, none⟩ :: rest) a w :=
  st_store hT (IntIn.elem kd) i hx (by omega) h hi (.int kd m) v hy (by rw [hm]; rfl) K
/-- A store of a one-cell element, as the walk writes it. -/
theorem OL.set1 {t : TypeId} (hT : TyI P t 1) (hR : Elem R 1) (h1c : OneCell R) (h : OL R 1 X base e w ao cap l) (i : Nat) (hi : i < l.length) (u : Value) (x : α) (hu : R (mk (un X ao) w) u x) :
    OL R 1 X base e (w.setCell (adr ao i) u) ao cap (l.set i x) ∧ ExtX (ob ao) w (w.setCell (adr ao i) u) := by
  obtain ⟨ti, ht, hts⟩ := hT
  obtain ⟨v, hc, hf, _⟩ := h.cell h1c i hi
  obtain ⟨w', hr, h2, h3⟩ := h.run_store (P := P) ht hts hR i hi u x hu
  have hcells := h1c _ _ _ hu
  have hone := hR.one _ _ _ hu u (by simp [cellsL, hcells])
  rw [Nat.mul_one] at hr
  have hw : w' = w.setCell (adr ao i) u := by
    simp only [storeVar, sizeOf, typeInfo, Sem.run_bind] at hr
    cases u <;> simp [Value.oneCell'] at hone <;> simp [program, Sem.run, ht, hts, Result.andThen, Value.cells, storeCells, store, Addr.add_zero', hc, hf] at hr <;> exact hr.symm
  subst hw
  exact ⟨h2, h3⟩
end
end Go.Rep
