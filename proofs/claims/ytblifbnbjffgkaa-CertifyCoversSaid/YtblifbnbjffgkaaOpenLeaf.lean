/- Arguments, opened to lists: []api.Leaf. Conditions: none. -/
import Derived.Test.YtblifbnbjffgkaaOpen
import Derived.Test.YtblifbnbjffgkaaGen2
namespace Go.Proofs.Ytblifbnbjffgkaa
open Go.ChangeShapes Go.WideShapes Go.ChangeAt Go.RowKit Go.Rep Go.Deep Go.Lim

section
variable {H : Type} {enc : TypeId × Value → H} {w : World} {base : Nat} {spare : Nat → Bool} {held : Bool}

theorem leaves_of {fuel : Nat} {v : Value} {x : DataW H × List MemPlace} (h : DataW.trod enc Try.prog w base spare held fuel 23 [v] = some x) :
    ∃ (a : Option Addr) (L : List Leaf) (cap : Nat), v = .slice a L.length cap ∧ L.length ≤ cap ∧ L.length ≤ 9223372036854775807 ∧ Sl LeafR 2 w.cell? a L ∧ ∀ x ∈ L, x.1.length ≤ 9223372036854775807 ∧ x.2.length ≤ 9223372036854775807 := by
  rcases open_slice Try.underlying23 h with ⟨hcs, _⟩ | ⟨x, len, c, m, n, D, Pl, hcs, _, hl, hm, hmm, _, hi⟩
  · exact ⟨none, [], 0, by simpa using hcs, by simp, by simp, Sl.nil _ _ _ _, by simp⟩
  · have hml : len ≤ m := by rw [hmm]; split <;> omega
    have hmax : c ≤ 9223372036854775807 := by simpa [maxLen] using hm
    have hC : Try.prog.cellsOf 26 = 2 := by kernel_rfl
    have key : ∀ k, k ≤ len → ∃ L : List Leaf, L.length = k ∧ (∀ y ∈ L, y.1.length ≤ 9223372036854775807 ∧ y.2.length ≤ 9223372036854775807) ∧ ∀ i (hi : i < L.length), ∃ u, u.cells.size = 2 ∧ (∀ j (hj : j < u.cells.size), w.cell? (x.add (i * 2 + j)) = some u.cells[j]) ∧ LeafR w.cell? u L[i] := by
      intro k
      induction k with
      | zero => intro _; exact ⟨[], rfl, by simp, by simp⟩
      | succ k ih =>
        intro hk
        obtain ⟨L, h1, h2, h3⟩ := ih (by omega)
        obtain ⟨cs', hc, ht'⟩ := hi k (by omega)
        rw [hC] at hc
        obtain ⟨ys, n', hn', hy, hlen, hyl, hf⟩ := DataW.trod_struct Try.underlying26 ht'
        obtain ⟨_, hcl, hat⟩ := World.cells?_some hc
        have h22 : Try.prog.cellsOf 22 = 1 := by kernel_rfl
        have f0 : DataW.trod enc Try.prog w base spare held n' 22 ((cs'.drop 0).take (Try.prog.cellsOf 22)) = ys[0]? := hf 0 _ rfl
        have f1 : DataW.trod enc Try.prog w base spare held n' 22 ((cs'.drop 1).take (Try.prog.cellsOf 22)) = ys[1]? := hf 1 _ rfl
        rw [h22] at f0 f1
        have d0 : (cs'.drop 0).take 1 = [cs'[0]'(by omega)] := by rw [List.drop_eq_getElem_cons (by omega)]; rfl
        have d1 : (cs'.drop 1).take 1 = [cs'[1]'(by omega)] := by rw [List.drop_eq_getElem_cons (by omega)]; rfl
        rw [d0] at f0
        rw [d1] at f1
        have hyl2 : ys.length = 2 := hyl
        rw [List.getElem?_eq_getElem (by omega)] at f0 f1
        have hy0 := f0
        have hy1 := f1
        obtain ⟨a0, l0, c0, e0, g0, b0, s0⟩ := ints_of hy0
        obtain ⟨a1, l1, c1, e1, g1, b1, s1⟩ := ints_of hy1
        refine ⟨L ++ [(l0, l1)], by simp [h1], fun y hy => ?_, fun i hi => ?_⟩
        · rcases List.mem_append.1 hy with hy | hy
          · exact h2 y hy
          · rw [List.mem_singleton.1 hy]; exact ⟨b0, b1⟩
        · by_cases hik : i < L.length
          · obtain ⟨u, q1, q2, q3⟩ := h3 i hik
            exact ⟨u, q1, q2, by simpa [List.getElem_append_left hik] using q3⟩
          · have hik2 : i = k := by simp at hi; omega
            subst hik2
            refine ⟨.agg #[.slice a0 l0.length c0, .slice a1 l1.length c1], rfl, fun j hj => ?_, ?_⟩
            · have hj2 : j < 2 := by simpa [Value.cells] using hj
              have h5 := hat j (by omega)
              rw [Go.Deep.add_add] at h5
              have : j = 0 ∨ j = 1 := by omega
              rcases this with rfl | rfl
              · rw [h5, List.getElem?_eq_getElem (by omega), e0]; rfl
              · rw [h5, List.getElem?_eq_getElem (by omega), e1]; rfl
            · simp only [h1.symm, List.getElem_concat_length]
              exact ⟨a0, c0, a1, c1, rfl, g0, g1, s0, s1⟩
    obtain ⟨L, h1, h2, h3⟩ := key len (Nat.le_refl _)
    refine ⟨some x, L, c, by rw [h1]; simpa using hcs, by omega, by omega, ⟨fun h0 => ?_, fun i hi => ?_⟩, h2⟩
    · obtain ⟨u, q1, q2, _⟩ := h3 0 h0
      obtain ⟨_, b, off, hx⟩ := adr_some (q2 0 (by omega))
      exact ⟨b, off, by rw [hx]⟩
    · obtain ⟨u, q1, q2, q3⟩ := h3 i hi
      obtain ⟨v, p1, p2, _⟩ := h3 0 (by omega)
      have ha := (adr_some (p2 0 (by omega))).1
      exact ⟨u, q1, fun j hj => by rw [← ha]; exact q2 j hj, q3⟩
end
end Go.Proofs.Ytblifbnbjffgkaa
