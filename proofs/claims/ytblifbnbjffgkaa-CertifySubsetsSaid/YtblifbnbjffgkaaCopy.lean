/- append(nil, l...): a copy in a new block. Conditions: none. -/
import Derived.Test.YtblifbnbjffgkaaFull
namespace Go.Rep
open Go.RowKit

section
variable {P : Program} {ops : Array Oper} {Q : Exit → Act → World → Prop} {rest : List Oper} {a : Act} {w : World}
variable {α : Type} {R : Mem → Value → α → Prop} {sz : Nat} {X : Nat → Bool} {e : TypeId}
variable {d : Option Tmp} {ty : TypeId} {ps : String} {af : Array Edge}

theorem st_copy {t by_ : Nat} {z : Value} {s x : Operand} {as : Option Addr} {cs m : Nat} (T : SliceT P t e sz by_ z) (hzs : z.cells.size = sz) (hR : Elem R sz) (hX : ∀ k, X k = true → k < w.heap.size)
    (xs : List α) (hs : a.eval s = .slice none 0 0) (hx : a.eval x = .slice as m cs) (hm : m = xs.length)
    (hxs : Sl R sz (mk X w) as xs) (hroom : m * by_ ≤ 140737488355328) (hmax : m ≤ 9223372036854775807)
    (K : ∀ ao' cap' w', OL R sz X w.heap.size e w' ao' cap' xs → Ext w w' → wpList P ops Q rest (a.put d (.slice ao' m cap')) w') :
    wpList P ops Q (⟨d, .call { callee := .builtin .append, args := #[s, x], argTypes := #[t, t] }, ty, ps, af, none⟩ :: rest) a w := by
  subst hm
  have h0 : OL R sz X w.heap.size e w none 0 [] := OL.nil _ _ _ _ _ _
  have hun : un X none = X := by funext k; simp [un, ob]
  refine st_appendl (l := []) T hzs hR (Nat.le_refl _) hX xs hs hx h0 (by rw [hun]; exact hxs) (by simpa using hroom) (by simpa using hmax) ?_
  intro ao' cap' w' h1 h2 h3
  have hE : Ext w w' := h2.weaken fun k _ _ => by simp [ob]
  exact K ao' cap' w' h1 hE

/-- What is read of a list of plain values does not hang on what is hidden elsewhere. -/
theorem OL.rehide {base cap : Nat} {ao : Option Addr} {l : List α} (hR : Elem R sz) (hR0 : ∀ h h' u x, R h u x → R h' u x) (h : OL R sz X base e w ao cap l) {Z : Nat → Bool} (hz : ∀ k, ob ao k = true → Z k = false) : Sl R sz (mk Z w) ao l := by
  have hf := h.form
  have hs := h.sl hR
  rcases hf with ⟨rfl, _, rfl⟩ | ⟨g, cur, rfl, _⟩
  · exact Sl.nil _ _ _ _
  · refine ⟨hs.1, fun i hi => ?_⟩
    obtain ⟨u, h1, h2, h3⟩ := hs.2 i hi
    refine ⟨u, h1, fun j hj => ?_, hR0 _ _ _ _ h3⟩
    have := mk_cell (h2 j hj)
    unfold mk
    rw [hz _ (by simp [ob, adr])]
    simpa using this
/-- An owned list beside another one that has grown. -/
theorem OL.beside {base cap : Nat} {ao oo oo' : Option Addr} {l : List α} {w' : World} (hR : Elem R sz) (h : OL R sz (un X oo) base e w ao cap l) (hE : ExtX (ob oo) w w') (ho : oo' = oo ∨ ∃ g, oo' = some ⟨g, 0, none⟩ ∧ w.heap.size ≤ g) : OL R sz (un X oo') base e w' ao cap l :=
  h.ext hR hE (fun k _ hk => un_right hk) fun k hk hz => by
    rcases ho with rfl | ⟨g, rfl, hg⟩
    · exact hz
    · by_cases hx : X k = true
      · exact un_left hx
      · have : g = k := by simpa [un, hx, ob] using hz
        omega
end
end Go.Rep
