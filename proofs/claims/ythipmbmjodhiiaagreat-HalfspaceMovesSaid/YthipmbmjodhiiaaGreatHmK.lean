/- Arguments, opened: six of them; bounds of integers; []int with its numbers' bounds. Conditions: none. law 25: HalfspaceLeast. Conditions: none. law 25: the depth does not change by an invertible affine map of the plane (plain). Conditions: none. -/
import Derived.Test.YthipmbmjodhiiaaGreatHmJ
namespace Go.Proofs.YthipmbmjodhiiaaGreat
open Go.ChangeShapes Go.WideShapes Go.ChangeAt Go.RowKit Go.Rep Go.Deep
theorem rng_i64 {n : Int} (h : (Lit.int .i64 n).wf = true) : -9223372036854775808 ≤ n ∧ n ≤ 9223372036854775807 := by
  unfold Lit.wf at h
  simpa [IntKind.min, IntKind.max, IntKind.signed, IntKind.bits] using h
section
variable {H : Type} {enc : TypeId × Value → H} {P : Program} {w : World} {base : Nat} {spare : Nat → Bool} {held : Bool}
theorem ints_wf {fuel : Nat} {v : Value} {x : DataW H × List MemPlace} (h : DataW.trod enc Tryz.prog w base spare held fuel 22 [v] = some x) :
    ∃ (a : Option Addr) (l : List Int) (cap : Nat), v = .slice a l.length cap ∧ l.length ≤ cap ∧ l.length ≤ 9223372036854775807 ∧ Sl (IntIn .i64) 1 (mk noY w) a l ∧ ∀ x ∈ l, -9223372036854775808 ≤ x ∧ x ≤ 9223372036854775807 := by
  rw [mk_noY]
  rcases open_ints Tryz.underlying22 Tryz.underlying3 (by kernel_rfl) h with ⟨hcs, _⟩ | ⟨x, len, c, zs, hcs, _, hl, hm, hz, _, hcell, hwf⟩
  · refine ⟨none, [], 0, by simpa using hcs, by simp, by simp, Sl.nil _ _ _ _, by simp⟩
  · have hzl : len ≤ zs.length := by
      rw [hz]; split <;> omega
    have hlen : (zs.take len).length = len := by simp; omega
    have hmax : c ≤ 9223372036854775807 := by simpa [maxLen] using hm
    refine ⟨some x, zs.take len, c, by rw [hlen]; simpa using hcs, by omega, by omega, ⟨fun h0 => ?_, fun i hi => ?_⟩, fun y hy => rng_i64 (hwf y (List.mem_of_mem_take hy))⟩
    · obtain ⟨_, b, off, hx⟩ := adr_some (hcell 0 (by omega))
      exact ⟨b, off, by rw [hx]⟩
    · have hi' : i < zs.length := by omega
      refine ⟨.int .i64 (zs.take len)[i], rfl, fun j hj => ?_, rfl⟩
      have hj0 : j = 0 := by simp [Value.cells] at hj; exact hj
      subst hj0
      have h1 := hcell i hi'
      have h2 := (adr_some (hcell 0 (by omega))).1 i
      rw [h2] at h1
      simp only [Nat.mul_one, Nat.add_zero, List.getElem_take]
      rw [h1]
      simp [List.getD_eq_getElem?_getD, hi', Value.cells]
end
end Go.Proofs.YthipmbmjodhiiaaGreat


namespace Go.Lin
open Go.Lim Go.Rep Go.Proofs.YthipmbmjodhiiaaGreat
theorem pts_of {p : Mat} {d : Nat} (h1 : 1 ≤ p.length) (h2 : p.length ≤ 64) (h3 : 1 ≤ d) (h4 : d ≤ 3) (h : ∀ r ∈ p, r.length = d) : ptsB p = true ∧ colsL p = d := by
  have hc : colsL p = d := by
    unfold colsL
    rw [List.getD_eq_getElem?_getD, List.getElem?_eq_getElem (by omega)]
    exact h _ (List.getElem_mem _)
  exact ⟨ptsB_true.2 ⟨h1, h2, by omega, by omega, fun i hi => by rw [hc]; exact h _ (List.getElem_mem _)⟩, hc⟩
end Go.Lin
namespace Go.Proofs.YthipmbmjodhiiaaGreat
open Go.RowKit Go.Rep Go.Lim Go.Lin
/-- What holds behind the tape's block holds from the call's start. -/
theorem tape_all {tb : Nat} {w w1 w2 : World} (h : w.heap.size = tb) (hE : Ext w w1) (h2 : ExtX (tbm tb) w1 w2) : Ext w w2 := hE.then_ h2 fun i hi _ => tbm_ne (by omega)
theorem noX_le (X : Nat → Bool) (w : World) : Le (mk X w) (mk noY w) := mk_sub fun k _ hk => by simp [noY] at hk

end Go.Proofs.YthipmbmjodhiiaaGreat


namespace Go.Lin
open Go.Lim Go.Rep Go.Proofs.YthipmbmjodhiiaaGreat
/-- A row of two numbers and the product of two rows and v. -/
def imgL (by_ r0 r1 v : List Rat) : List Rat := [by_.getD 0 0 + dotL r0 v, by_.getD 1 0 + dotL r1 v]
theorem dotL_two {r v : List Rat} (h : r.length = 2) : dotL r v = r.getD 0 0 * v.getD 0 0 + r.getD 1 0 * v.getD 1 0 := by
  unfold dotL
  rw [h]
  show 0 + r.getD 0 0 * v.getD 0 0 + r.getD 1 0 * v.getD 1 0 = _
  grind
theorem img_law {p : Mat} {x by_ r0 r1 : List Rat} (hp : ptsB p = true ∧ colsL p = 2) (_hr : ∀ r ∈ p, r.length = 2) (hx : x.length = 2) (h0 : r0.length = 2) (h1 : r1.length = 2)
    (hD : r0.getD 0 0 * r1.getD 1 0 - r0.getD 1 0 * r1.getD 0 0 ≠ 0) :
    depOk p x = true ∧ depOk (p.map (imgL by_ r0 r1)) (imgL by_ r0 r1 x) = true ∧ depV (p.map (imgL by_ r0 r1)) (imgL by_ r0 r1 x) = depV p x := by
  obtain ⟨q1, q2, q3, q4, q5⟩ := ptsB_true.1 hp.1
  have hq := pts_of (p := p.map (imgL by_ r0 r1)) (d := 2) (by simpa using q1) (by simpa using q2) (by decide) (by decide) (fun r hr => by obtain ⟨s, _, rfl⟩ := List.mem_map.1 hr; rfl)
  have o1 : depOk p x = true := by unfold depOk; rw [hp.1, hp.2, decide_eq_true hx]; rfl
  have o2 : depOk (p.map (imgL by_ r0 r1)) (imgL by_ r0 r1 x) = true := by unfold depOk; rw [hq.1, hq.2, decide_eq_true (by rfl)]; rfl
  refine ⟨o1, o2, ?_⟩
  obtain ⟨k, hk⟩ := dep_ex (c := 2) (by decide) (vecs (fromM 2 p x))
  rw [depV_yes o1 (k := k) (by rw [hp.2]; exact hk)]
  refine depV_yes o2 ?_
  rw [hq.2]
  refine dep_congr ?_ ?_ (dep_plane (r0.getD 0 0) (r0.getD 1 0) (r1.getD 0 0) (r1.getD 1 0) hD hk)
  · simp [vecs, fromM]
  · intro i hi1 hi2 j hj
    have hi : i < p.length := by simpa [vecs, fromM] using hi2
    have e1 : ∀ (F : Vec → Vec) (h : i < ((vecs (fromM 2 p x)).map F).length), ((vecs (fromM 2 p x)).map F)[i] = F (vec ((List.range 2).map fun j => p[i].getD j 0 - x.getD j 0)) := fun F h => by simp [vecs, fromM]
    have e2 : (vecs (fromM 2 (p.map (imgL by_ r0 r1)) (imgL by_ r0 r1 x)))[i] = vec ((List.range 2).map fun j => (imgL by_ r0 r1 p[i]).getD j 0 - (imgL by_ r0 r1 x).getD j 0) := by simp [vecs, fromM]
    refine (congrFun (e1 _ hi1) j).trans (Eq.trans ?_ (congrFun e2 j).symm)
    rw [vec_from 2 _ _ j hj]
    show (if j = 0 then r0.getD 0 0 * vec _ 0 + r0.getD 1 0 * vec _ 1 else r1.getD 0 0 * vec _ 0 + r1.getD 1 0 * vec _ 1) = _
    rw [vec_from 2 _ _ 0 (by decide), vec_from 2 _ _ 1 (by decide)]
    unfold vec imgL
    rw [dotL_two h0, dotL_two h1, dotL_two h0, dotL_two h1]
    match j, hj with
    | 0, _ => simp only [if_true, List.getD_cons_zero]; grind
    | 1, _ => simp only [Nat.one_ne_zero, if_false, List.getD_cons_succ, List.getD_cons_zero]; grind
end Go.Lin

