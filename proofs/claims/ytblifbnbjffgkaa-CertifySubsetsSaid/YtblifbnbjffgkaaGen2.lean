/- More readings: leaves; lists under a new mask. Conditions: none. -/
import Derived.Test.YtblifbnbjffgkaaSteps
import Derived.Test.YtblifbnbjffgkaaLeafL
namespace Go.Rep
open Go.RowKit Go.Lim

/-- A leaf: two lists of integers. -/
def LeafR : Mem → Value → Leaf → Prop := fun h u x => ∃ a1 c1 a2 c2, u = .agg #[.slice a1 x.1.length c1, .slice a2 x.2.length c2] ∧ x.1.length ≤ c1 ∧ x.2.length ≤ c2 ∧ Sl (IntIn .i64) 1 h a1 x.1 ∧ Sl (IntIn .i64) 1 h a2 x.2
theorem LeafR.mono : Mono LeafR := by
  rintro h h' u x hl ⟨a1, c1, a2, c2, rfl, h1, h2, h3, h4⟩
  exact ⟨a1, c1, a2, c2, rfl, h1, h2, h3.mono (IntIn.mono _) hl, h4.mono (IntIn.mono _) hl⟩
theorem LeafR.elem : Elem LeafR 2 := ⟨LeafR.mono, by rintro h u x ⟨a1, c1, a2, c2, rfl, _⟩; rfl, by
  rintro h u x ⟨a1, c1, a2, c2, rfl, _⟩ c hc
  simp [cellsL, Value.cells] at hc
  rcases hc with rfl | rfl <;> rfl, by decide⟩
theorem Sl.leaf {X : Nat → Bool} {w : World} {ao : Option Addr} {l : List Leaf} (s : Sl LeafR 2 (mk X w) ao l) (i : Nat) (hi : i < l.length) :
    ∃ a1 c1 a2 c2, w.cell? (adr ao (i * 2)) = some (.slice a1 l[i].1.length c1) ∧ w.cell? (adr ao (i * 2 + 1)) = some (.slice a2 l[i].2.length c2) ∧ l[i].1.length ≤ c1 ∧ l[i].2.length ≤ c2 ∧ Sl (IntIn .i64) 1 (mk X w) a1 l[i].1 ∧ Sl (IntIn .i64) 1 (mk X w) a2 l[i].2 := by
  obtain ⟨u, h1, h2, a1, c1, a2, c2, rfl, h3, h4, h5, h6⟩ := s.2 i hi
  exact ⟨a1, c1, a2, c2, mk_cell (h2 0 (by simp [Value.cells])), mk_cell (h2 1 (by simp [Value.cells])), h3, h4, h5, h6⟩
/-- What is read outside of X and of a list's own block is still read outside of it behind a step on that list. -/
theorem Sl.unstep {α : Type} {R : Mem → Value → α → Prop} (hR : Mono R) {sz : Nat} {X : Nat → Bool} {w w' : World} {oo oo' ao : Option Addr} {l : List α} (s : Sl R sz (mk (un X oo) w) ao l) (hE : ExtX (ob oo) w w') (ho : oo' = oo ∨ ∃ g, oo' = some ⟨g, 0, none⟩ ∧ w.heap.size ≤ g) : Sl R sz (mk (un X oo') w') ao l :=
  s.mono hR (mkun_over hE ho)
theorem Sl.unX {α : Type} {R : Mem → Value → α → Prop} (hR : Mono R) {sz : Nat} {X : Nat → Bool} {w : World} {oo ao : Option Addr} {l : List α} (s : Sl R sz (mk (un X oo) w) ao l) : Sl R sz (mk X w) ao l :=
  s.mono hR (mk_sub fun k _ hk => un_left hk)
/-- A reading from before the own block was made. -/
theorem Sl.old {α : Type} {R : Mem → Value → α → Prop} (hR : Mono R) {sz : Nat} {X : Nat → Bool} {w w' : World} {oo ao : Option Addr} {l : List α} (s : Sl R sz (mk X w) ao l) (hE : Ext w w') (hb : ∀ j, j < w.heap.size → ob oo j = false) : Sl R sz (mk (un X oo) w') ao l :=
  s.mono hR (mk_over hE (fun k _ hk => by simp [noY] at hk) fun j hk hz => by simpa [un, hb j hk] using hz)

/-- A struct type of the program: its cells. -/
def StructT (P : Program) (t sz : Nat) : Prop := ∃ fs ti, P.underlying t = some (.struct fs) ∧ P.info? t = some ti ∧ ti.size = sz

section
variable {P : Program} {ops : Array Oper} {Q : Exit → Act → World → Prop} {rest : List Oper} {a : Act} {w : World}
variable {α : Type} {R : Mem → Value → α → Prop} {sz : Nat} {X : Nat → Bool} {ao : Option Addr} {l : List α}
variable {d : Option Tmp} {ty : TypeId} {ps : String} {af : Array Edge}

/-- A load of a struct out of a list of structs. -/
theorem st_loadElem {t : TypeId} {x : Operand} {k : Nat} (hT : StructT P t sz) (i : Nat) (hs : Sl R sz (mk X w) ao l) (hi : i < l.length) (hx : a.eval x = .pointer (some (adr ao k))) (hk : k = i * sz) (hag : ∀ h u y, R h u y → ∃ cs, u = .agg cs)
    (K : ∀ u, R (mk X w) u l[i] → wpList P ops Q rest (a.put d u) w) :
    wpList P ops Q (⟨d, .load t x, ty, ps, af, none⟩ :: rest) a w := by
  refine wpList_plain rfl fun K' hK' => ?_
  subst hk
  obtain ⟨fs, ti, h1, h2, h3⟩ := hT
  obtain ⟨u, h4, h5, h6⟩ := hs.2 i hi
  obtain ⟨cs, rfl⟩ := hag _ _ _ h6
  have hl := run_loadCells_list (P := P) w (adr ao (i * sz)) cs.toList (fun j v hj => by
    rw [adr_add]
    obtain ⟨hj1, hj2⟩ := List.getElem?_eq_some_iff.1 hj
    have := mk_cell (h5 j (by simpa [Value.cells] using hj1))
    rw [this]
    simp [Value.cells] at hj2 ⊢
    exact hj2)
  have hsz : cs.toList.length = sz := by simpa [Value.cells] using h4
  rw [hsz] at hl
  unfold Oper.wp
  simp [execOp, hx, Instr.loadAt, Instr.sureAddr, loadVar, isAgg, run_underlying h1, sizeOf, typeInfo, h2, h3, hl, Result.andThen]
  exact hK' _ _ (K _ h6)
end
theorem LeafR.agg : ∀ h u y, LeafR h u y → ∃ cs, u = .agg cs := by rintro h u y ⟨a1, c1, a2, c2, rfl, _⟩; exact ⟨_, rfl⟩
theorem OL.ob_ge {α : Type} {R : Mem → Value → α → Prop} {sz : Nat} {X : Nat → Bool} {base : Nat} {e : TypeId} {w : World} {ao : Option Addr} {cap : Nat} {l : List α} (h : OL R sz X base e w ao cap l) {k : Nat} (hk : w.heap.size ≤ k) : ob ao k = false := by
  cases hb : ob ao k
  · rfl
  · have := h.block hb; omega
/-- append(s, x) of one element, where the slice's length is written otherwise. -/
theorem st_append1n {P : Program} {ops : Array Oper} {Q : Exit → Act → World → Prop} {rest : List Oper} {a : Act} {w : World} {α : Type} {R : Mem → Value → α → Prop} {sz : Nat} {X : Nat → Bool} {base : Nat} {e : TypeId} {ao : Option Addr} {cap : Nat} {l : List α} {d : Option Tmp} {ty : TypeId} {ps : String} {af : Array Edge}
    {t by_ : Nat} {z : Value} {arr : Array Value} {s x : Operand} (T : SliceT P t e sz by_ z) (hzs : z.cells.size = sz) (hR : Elem R sz) (hbase : base ≤ w.heap.size) (hX : ∀ k, X k = true → k < w.heap.size) (n : Nat) (hn : l.length = n)
    (hs : a.eval s = .slice ao n cap) (hx : a.eval x = .slice (some ⟨w.heap.size, 0, none⟩) 1 1) (h : OL R sz X base e w ao cap l)
    (u : Value) (y : α) (harr : arr = u.cells) (hu : R (mk (un X ao) w) u y) (hroom : (n + 1) * by_ ≤ 140737488355328) (hmax : n + 1 ≤ 9223372036854775807)
    (K : ∀ ao' cap' w', OL R sz X base e w' ao' cap' (l ++ [y]) → ExtX (ob ao) w w' → (ao' = ao ∨ ∃ g, ao' = some ⟨g, 0, none⟩ ∧ w.heap.size ≤ g) → wpList P ops Q rest (a.put d (.slice ao' (n + 1) cap')) w') :
    wpList P ops Q (⟨d, .call { callee := .builtin .append, args := #[s, x], argTypes := #[t, t] }, ty, ps, af, none⟩ :: rest) a (w.alloc (.cells arr e)) := by
  subst hn
  exact st_append1 T hzs hR hbase hX hs hx h u y harr hu hroom hmax fun ao' cap' w' h1 h2 h3 => by
    have := K ao' cap' w' h1 h2 h3
    rwa [show l.length + 1 = (l ++ [y]).length from by simp] at this
end Go.Rep
