/- matrix and reference 06, side by side: one result each. Conditions: few rows and columns, numbers of few digits. Arguments, opened to lists: []int. Conditions: none. Arguments, opened to lists: rational numbers as they came, rows, matrices of them. Conditions: none. made: Light, LightList, LightMatrix; law 06: light, small. Conditions: none. matrix: Valid; reference 06: Valid. Conditions: few rows and columns, numbers of few digits. law 06: small. Conditions: none. reference 06: SameInts. Conditions: lengths far below any machine's. reference 03: Div, Same. Conditions: at most 2^36 digits. reference 03: Same. Conditions: at most 2^36 digits. reference 03: SameList, SameLists. Conditions: at most 2^36 digits. reference 03: SameLists. Conditions: at most 2^36 digits. law 06: awake. Conditions: none. law 06: MatrixMultiplies, MatrixReduces, MatrixSolves return true. Conditions: none. law 06: MatrixReduces, MatrixSolves return true. Conditions: none. Arguments, opened: six of them; bounds of integers; []int with its numbers' bounds. Conditions: none. Facts of the whole program that each row asks for. Conditions: none. -/
import Derived.Test.YtjbhcniiioepgaaGreatSvH
import Derived.WalkKit
import Derived.ProofKit
import Derived.OpenShut
import Derived.ShutString
import Derived.ChangeOld
import Derived.Below
import Derived.Deep.Slices
import Derived.Deep.Fields
import Derived.ChangeSame
import Derived.BigQuiet
import Derived.Test.YtjbhcniiioepgaaGreatRows
import Derived.JoinedOf
namespace Go.Lin
open Go.Lim
/-- Numbers that both sides can compare. -/
def OkM (x : Mat) : Prop := Go.Rep.BM 68719476736 x ∧ x.length ≤ 1099511627776 ∧ ∀ r ∈ x, r.length ≤ 1099511627776
def OkR (x : List Rat) : Prop := Go.Rep.BR 68719476736 x ∧ x.length ≤ 1099511627776
theorem OkM.nil : OkM [] := ⟨fun r hr => by simp at hr, Nat.zero_le _, fun r hr => by simp at hr⟩
theorem OkR.nil : OkR [] := ⟨fun r hr => by simp at hr, Nat.zero_le _⟩
theorem OkM.of {n c B : Nat} {x : Mat} (h : Shp n c x) (hB : Go.Rep.BM B x) (hBB : B ≤ 68719476736) (hn : n ≤ 1099511627776) (hc : c ≤ 1099511627776) : OkM x :=
  ⟨fun r hr q hq => Nat.le_trans (hB r hr q hq) hBB, by rw [h.1]; exact hn, fun r hr => by rw [h.2 r hr]; exact hc⟩
end Go.Lin
namespace Go.Proofs.YtjbhcniiioepgaaGreat
open Go.RowKit Go.Rep Go.Lim Go.Lin

/-- A result, and an error's number. -/
def E2 {α : Type} (w : World) (R : Mem → Value → α → Prop) (x : α) (c : Int) (e : Ending) (w' : World) : Prop := Ext w w' ∧ ∃ u, e = .returned (.tuple #[u, .int .i64 c]) ∧ R (mk noY w') u x
theorem e2_nil {α : Type} {R : Mem → Value → α → Prop} {sz : Nat} {w w' : World} {e : Ending} (h : Ext w w') {c : Int} (he : e = .returned (.tuple #[.slice none 0 0, .int .i64 c])) : E2 w (SlV R sz) [] c e w' := ⟨h, _, he, SlV.zero _ _ _⟩
theorem e2_nil' {α : Type} {R : Mem → Value → α → Prop} {sz : Nat} {w w' : World} {e : Ending} (h : w' = w) {c : Int} (he : e = .returned (.tuple #[.slice none 0 0, .int .i64 c])) : E2 w (SlV R sz) [] c e w' := by subst h; exact e2_nil (ExtX.refl _) he

/-- What a small matrix is: at most four rows and columns where it has rows. -/
theorem tame4 {n c B : Nat} {m : Mat} (hs : Shp n c m) (hn : n ≤ 4) (h : HB B m) (hBB : B ≤ 1000) : Tame m c ∧ TameR m c := by
  have h35 := pow35' hn
  have h6 : 6 ^ n ≤ 1296 := Nat.le_trans (Nat.pow_le_pow_right (by omega) hn) (by decide)
  have h1 := Nat.mul_le_mul h35 hBB
  have h2 := Nat.mul_le_mul h6 hBB
  exact ⟨tame_of hs h (by omega), tamer_of hs h (by omega)⟩
theorem pair_sol (m : Mat) (b : List Rat) (B : Nat) (hl : m.length ≤ 4) (hB : BM B m) (hb : BR B b) (hB1 : 1 ≤ B) (hBB : B ≤ 1000) : ∃ x c, (∀ w u v, MV (mk noY w) u m → RV (mk noY w) v b → Calls Tryz.prog 53 #[u, v] w (E2 w RC x c)) ∧ (∀ w u v, MV (mk noY w) u m → RV (mk noY w) v b → Calls Tryz.prog 54 #[u, v] w (E2 w RC x c)) ∧ OkR x := by
  cases hf : formedB m
  · exact ⟨[], 6, fun w u v hu hv => (solve_no noY w u v m hu (by omega) hf).mono fun e w' ⟨h1, h2⟩ => e2_nil' h1 h2, fun w u v hu hv => (rsolve_no noY w u v m hu (by omega) hf).mono fun e w' ⟨h1, h2⟩ => e2_nil h1 h2, OkR.nil⟩
  · by_cases hbl : b.length = m.length
    · obtain ⟨hs, h96, hc96, _⟩ := formedB_shp hf
      have hmb := bm_hb hB hB1
      have hw := wideB_hb (b := b) hs hmb hb
      obtain ⟨t1, t2⟩ := tame4 (wideB_shp (b := b) hs) hl hw hBB
      have hwb : BM 68719476736 (wideB m b m.length) := fun r hr q hq => Nat.le_trans (hb_bm hw r hr q hq) (by omega)
      have h35 := pow35' hl
      have h9 := Nat.mul_le_mul h35 hBB
      by_cases hc : colsL m ∈ (redP (wideB m b m.length) (colsL m + 1)).2
      · refine ⟨[], 11, fun w u v hu hv => (solve_ok noY w u v m b _ _ (HX.none _) hu hv hf rfl rfl hbl t1).mono fun e w' ⟨h1, h2⟩ => ?_, fun w u v hu hv => (rsolve_ok noY w u v m b _ _ (HX.none _) hu hv hf rfl rfl hbl t2 hwb).mono fun e w' ⟨h1, h2⟩ => ?_, OkR.nil⟩
        · rcases h2 with ⟨_, h2⟩ | ⟨h2, _⟩
          · exact e2_nil h1 h2
          · exact absurd hc h2
        · rcases h2 with ⟨_, h2⟩ | ⟨h2, _⟩
          · exact e2_nil h1 h2
          · exact absurd hc h2
      · refine ⟨solL (redP (wideB m b m.length) (colsL m + 1)).1 (redP (wideB m b m.length) (colsL m + 1)).2 (colsL m), 0, fun w u v hu hv => (solve_ok noY w u v m b _ _ (HX.none _) hu hv hf rfl rfl hbl t1).mono fun e w' ⟨h1, h2⟩ => ?_, fun w u v hu hv => (rsolve_ok noY w u v m b _ _ (HX.none _) hu hv hf rfl rfl hbl t2 hwb).mono fun e w' ⟨h1, h2⟩ => ?_, fun q hq => Nat.le_trans (sol_br hs hmb hb q hq) (by omega), by rw [sol_len]; omega⟩
        · rcases h2 with ⟨h2, _⟩ | ⟨_, h2⟩
          · exact absurd h2 hc
          · exact ⟨h1, h2⟩
        · rcases h2 with ⟨h2, _⟩ | ⟨_, h2⟩
          · exact absurd h2 hc
          · exact ⟨h1, h2⟩
    · exact ⟨[], 6, fun w u v hu hv => (solve_no2 noY w u v m b hu hv hf hbl).mono fun e w' ⟨h1, h2⟩ => e2_nil' h1 h2, fun w u v hu hv => (rsolve_no2 noY w u v m b hu hv hf hbl).mono fun e w' ⟨h1, h2⟩ => e2_nil h1 h2, OkR.nil⟩

theorem pair_null (m : Mat) (B : Nat) (hl : m.length ≤ 4) (hB : BM B m) (hB1 : 1 ≤ B) (hBB : B ≤ 1000) : ∃ x c, (∀ w u, MV (mk noY w) u m → Calls Tryz.prog 55 #[u] w (E2 w MC x c)) ∧ (∀ w u, MV (mk noY w) u m → Calls Tryz.prog 56 #[u] w (E2 w MC x c)) ∧ OkM x := by
  cases hf : formedB m
  · exact ⟨[], 6, fun w u hu => (null_no noY w u m hu (by omega) hf).mono fun e w' ⟨h1, h2⟩ => e2_nil' h1 h2, fun w u hu => (rnull_no noY w u m hu (by omega) hf).mono fun e w' ⟨h1, h2⟩ => e2_nil h1 h2, OkM.nil⟩
  · obtain ⟨hs, h96, hc96, _⟩ := formedB_shp hf
    obtain ⟨t1, t2⟩ := tame4 hs hl (bm_hb hB hB1) hBB
    have hnm := null_main hs (bm_hb hB hB1)
    have h35 := pow35' hl
    have h9 := Nat.mul_le_mul h35 hBB
    exact ⟨nullL (ent (redP m (colsL m)).1) (redP m (colsL m)).2 (colsL m), 0, fun w u hu => null_ok noY w u m _ _ (HX.none _) hu hf rfl rfl t1, fun w u hu => rnull_ok noY w u m _ _ (HX.none _) hu hf rfl rfl t2, fun r hr q hq => Nat.le_trans ((hnm r hr).2.1 q hq) (by omega), Nat.le_trans (nullK_le _ _ _ _) (by omega), fun r hr => by rw [(hnm r hr).1]; omega⟩
end Go.Proofs.YtjbhcniiioepgaaGreat


namespace Go.Proofs.YtjbhcniiioepgaaGreat
open Go.ChangeShapes Go.WideShapes Go.ChangeAt Go.RowKit Go.Rep Go.Deep

section
variable {H : Type} {enc : TypeId × Value → H} {w : World} {base : Nat} {spare : Nat → Bool} {held : Bool}

theorem adr_some {x : Addr} {v : Value} (h : w.cell? (x.add 0) = some v) : (∀ j, x.add j = adr (some x) j) ∧ ∃ b off, x = ⟨b, off, none⟩ := by
  have hs := World.cell?_spot h
  obtain ⟨b, off, spot⟩ := x
  have hspot : spot = none := by simpa [Addr.add] using hs
  subst hspot
  exact ⟨fun j => by rw [Addr.add_lit]; simp [adr], b, off, rfl⟩

end
end Go.Proofs.YtjbhcniiioepgaaGreat


namespace Go.Rep
open Go.RowKit Go.Lim
/-- A rational number asl it came: sign, digits, digits. -/
abbrev RawQ := Bool × List Nat × List Nat
def QR (h : Mem) (u : Value) (x : RawQ) : Prop := ∃ ao c bo e, u = .agg #[.bool x.1, .slice ao x.2.1.length c, .slice bo x.2.2.length e] ∧ x.2.1.length ≤ c ∧ x.2.2.length ≤ e ∧ Dig x.2.1 ∧ Dig x.2.2 ∧ x.2.1.length ≤ 9223372036854775807 ∧ x.2.2.length ≤ 9223372036854775807 ∧ Sl (NatIn .u32) 1 h ao x.2.1 ∧ Sl (NatIn .u32) 1 h bo x.2.2
theorem QR.mono : Mono QR := by rintro h h' u x hl ⟨ao, c, bo, e, rfl, h1, h2, h3, h4, h5, h6, h7, h8⟩; exact ⟨ao, c, bo, e, rfl, h1, h2, h3, h4, h5, h6, h7.mono (NatIn.mono _) hl, h8.mono (NatIn.mono _) hl⟩
theorem QR.elem : Elem QR 3 := ⟨QR.mono, by rintro h u x ⟨ao, c, bo, e, rfl, _⟩; rfl, by
  rintro h u x ⟨ao, c, bo, e, rfl, _⟩ v hv
  simp [cellsL, Value.cells] at hv
  rcases hv with rfl | rfl | rfl <;> rfl, by decide⟩
theorem QR.shape {h : Mem} {u : Value} {x : RawQ} (hu : QR h u x) : ∃ ao c bo e, u = .agg #[.bool x.1, .slice ao x.2.1.length c, .slice bo x.2.2.length e] := by
  obtain ⟨ao, c, bo, e, rfl, _⟩ := hu; exact ⟨_, _, _, _, rfl⟩
theorem QR.agg : ∀ h u y, QR h u y → ∃ cs, u = .agg cs := by rintro h u x ⟨ao, c, bo, e, rfl, _⟩; exact ⟨_, rfl⟩
/-- Its value, 0 if it is no number in its only form. -/
noncomputable def valQ (x : RawQ) : Rat := qval x.1 x.2.1 x.2.2
/-- Of at most k digits. -/
abbrev Few (k : Nat) (x : RawQ) : Prop := x.2.1.length ≤ k ∧ x.2.2.length ≤ k
theorem QR.qv {h : Mem} {u : Value} {x : RawQ} (hu : QR h u x) (hf : Few 68719476736 x) : QV h u (valQ x) := by
  obtain ⟨ao, c, bo, e, rfl, h1, h2, h3, h4, _, _, h7, h8⟩ := hu
  exact ⟨_, ao, c, _, bo, e, _, rfl, h1, h2, h3, h4, hf.1, hf.2, h7, h8, rfl⟩
theorem QR.hq {h : Mem} {u : Value} {x : RawQ} {k : Nat} (hu : QR h u x) (hf : Few k x) (hk : 1 ≤ k) : hq (valQ x) ≤ k := by
  obtain ⟨ao, c, bo, e, rfl, h1, h2, h3, h4, _, _, h7, h8⟩ := hu
  exact qval_hq _ _ _ k h3 h4 hf.1 hf.2 hk
theorem Sl.qvR {h : Mem} {ao : Option Addr} {l : List RawQ} (s : Sl QR 3 h ao l) (hf : ∀ x ∈ l, Few 68719476736 x) : Sl QV 3 h ao (l.map valQ) :=
  ⟨fun hp => s.1 (by simpa using hp), fun i hi => by
    have hi' : i < l.length := by simpa using hi
    obtain ⟨u, h1, h2, h3⟩ := s.2 i hi'
    exact ⟨u, h1, h2, by rw [List.getElem_map]; exact h3.qv (hf _ (List.getElem_mem _))⟩⟩
theorem Sl.brR {h : Mem} {ao : Option Addr} {l : List RawQ} {k : Nat} (s : Sl QR 3 h ao l) (hf : ∀ x ∈ l, Few k x) (hk : 1 ≤ k) : BR k (l.map valQ) := fun q hq => by
  obtain ⟨x, hx, rfl⟩ := List.mem_map.1 hq
  obtain ⟨i, hi, rfl⟩ := List.getElem_of_mem hx
  obtain ⟨u, h1, h2, h3⟩ := s.2 i hi
  exact h3.hq (hf _ (List.getElem_mem _)) hk
abbrev RR : Mem → Value → List RawQ → Prop := SlV QR 3
abbrev MR : Mem → Value → List (List RawQ) → Prop := SlV RR 1
theorem RR.mono : Mono RR := SlV.mono QR.mono 3
theorem RR.elem : Elem RR 1 := SlV.elem QR.elem
theorem MR.mono : Mono MR := SlV.mono RR.mono 1
theorem RR.rv {h : Mem} {u : Value} {l : List RawQ} (hu : RR h u l) (hf : ∀ x ∈ l, Few 68719476736 x) : RV h u (l.map valQ) := by
  obtain ⟨ao, c, rfl, h1, h2⟩ := hu
  exact ⟨ao, c, by rw [List.length_map], by rw [List.length_map]; exact h1, h2.qvR hf⟩
theorem RR.br {h : Mem} {u : Value} {l : List RawQ} {k : Nat} (hu : RR h u l) (hf : ∀ x ∈ l, Few k x) (hk : 1 ≤ k) : BR k (l.map valQ) := by
  obtain ⟨ao, c, rfl, h1, h2⟩ := hu
  exact h2.brR hf hk
/-- The values of all numbers. -/
noncomputable def valM (m : List (List RawQ)) : List (List Rat) := m.map fun r => r.map valQ
theorem MR.mv {h : Mem} {u : Value} {m : List (List RawQ)} (hu : MR h u m) (hf : ∀ r ∈ m, ∀ x ∈ r, Few 68719476736 x) : MV h u (valM m) := by
  obtain ⟨ao, c, rfl, h1, h2⟩ := hu
  refine ⟨ao, c, by rw [valM, List.length_map], by rw [valM, List.length_map]; exact h1, fun hp => h2.1 (by simpa [valM] using hp), fun i hi => ?_⟩
  have hi' : i < m.length := by simpa [valM] using hi
  obtain ⟨u, k1, k2, k3⟩ := h2.2 i hi'
  exact ⟨u, k1, k2, by simp only [valM, List.getElem_map]; exact RR.rv k3 (hf _ (List.getElem_mem _))⟩
theorem MR.bm {h : Mem} {u : Value} {m : List (List RawQ)} {k : Nat} (hu : MR h u m) (hf : ∀ r ∈ m, ∀ x ∈ r, Few k x) (hk : 1 ≤ k) : BM k (valM m) := fun r hr => by
  obtain ⟨ao, c, rfl, h1, h2⟩ := hu
  obtain ⟨y, hy, rfl⟩ := List.mem_map.1 hr
  obtain ⟨i, hi, rfl⟩ := List.getElem_of_mem hy
  obtain ⟨u, k1, k2, k3⟩ := h2.2 i hi
  exact RR.br k3 (hf _ (List.getElem_mem _)) hk
end Go.Rep
namespace Go.Proofs.YtjbhcniiioepgaaGreat
open Go.ChangeShapes Go.WideShapes Go.ChangeAt Go.RowKit Go.Rep Go.Deep Go.Lim
section
variable {H : Type} {enc : TypeId × Value → H} {w : World} {base : Nat} {spare : Nat → Bool} {held : Bool}
/-- A slice whose elements open, opens. -/
theorem slice_of {α : Type} {R : Mem → Value → α → Prop} {t e : TypeId} {sz : Nat} (ht : Tryz.prog.underlying t = some (.slice e)) (hC : Tryz.prog.cellsOf e = sz) (hz : 0 < sz) (hsize : ∀ h u x, R h u x → u.cells.size = sz)
    (hel : ∀ (n : Nat) (cs : List Value) (y : DataW H × List MemPlace), cs.length = sz → DataW.trod enc Tryz.prog w base spare held n e cs = some y → ∃ u x, cellsL u = cs ∧ R w.cell? u x)
    {fuel : Nat} {v : Value} {x : DataW H × List MemPlace} (h : DataW.trod enc Tryz.prog w base spare held fuel t [v] = some x) :
    ∃ (a : Option Addr) (L : List α) (cap : Nat), v = .slice a L.length cap ∧ L.length ≤ cap ∧ cap ≤ 9223372036854775807 ∧ Sl R sz w.cell? a L := by
  rcases open_slice ht h with ⟨hcs, _⟩ | ⟨x, len, c, m, n, D, Pl, hcs, _, hl, hm, hmm, _, hi⟩
  · exact ⟨none, [], 0, by simpa using hcs, by simp, by simp, Sl.nil _ _ _ _⟩
  · have hml : len ≤ m := by rw [hmm]; split <;> omega
    have hmax : c ≤ 9223372036854775807 := by simpa [maxLen] using hm
    have key : ∀ k, k ≤ len → ∃ L : List α, L.length = k ∧ ∀ i (hi : i < L.length), ∃ u, u.cells.size = sz ∧ (∀ j (hj : j < u.cells.size), w.cell? (x.add (i * sz + j)) = some u.cells[j]) ∧ R w.cell? u L[i] := by
      intro k
      induction k with
      | zero => intro _; exact ⟨[], rfl, by simp⟩
      | succ k ih =>
        intro hk
        obtain ⟨L, h1, h3⟩ := ih (by omega)
        obtain ⟨cs', hc, ht'⟩ := hi k (by omega)
        rw [hC] at hc
        obtain ⟨_, hcl, hat⟩ := World.cells?_some hc
        obtain ⟨u, y, hu, hR⟩ := hel n cs' _ hcl ht'
        refine ⟨L ++ [y], by simp [h1], fun i hi => ?_⟩
        by_cases hik : i < L.length
        · obtain ⟨u, q1, q2, q3⟩ := h3 i hik
          exact ⟨u, q1, q2, by simpa [List.getElem_append_left hik] using q3⟩
        · have hik2 : i = k := by simp at hi; omega
          subst hik2
          refine ⟨u, hsize _ _ _ hR, fun j hj => ?_, ?_⟩
          · have hj2 : j < sz := by rw [hsize _ _ _ hR] at hj; exact hj
            have h5 := hat j (by omega)
            rw [Go.Deep.add_add] at h5
            rw [h5]
            have h6 : cs'[j]? = (cellsL u)[j]? := by rw [hu]
            rw [h6]
            simp [cellsL, hj]
          · simp only [h1.symm, List.getElem_concat_length]
            exact hR
    obtain ⟨L, h1, h3⟩ := key len (Nat.le_refl _)
    refine ⟨some x, L, c, by rw [h1]; simpa using hcs, by omega, by omega, ⟨fun h0 => ?_, fun i hi => ?_⟩⟩
    · obtain ⟨u, q1, q2, _⟩ := h3 0 h0
      obtain ⟨_, b, off, hx⟩ := adr_some (by simpa using q2 0 (by omega))
      exact ⟨b, off, by rw [hx]⟩
    · obtain ⟨u, q1, q2, q3⟩ := h3 i hi
      obtain ⟨v, p1, p2, _⟩ := h3 0 (by omega)
      have ha := (adr_some (by simpa using p2 0 (by omega))).1
      exact ⟨u, q1, fun j hj => by rw [← ha]; exact q2 j hj, q3⟩
theorem u32s_of {fuel : Nat} {v : Value} {x : DataW H × List MemPlace} (h : DataW.trod enc Tryz.prog w base spare held fuel 27 [v] = some x) :
    ∃ (a : Option Addr) (l : List Nat) (cap : Nat), v = .slice a l.length cap ∧ l.length ≤ cap ∧ l.length ≤ 9223372036854775807 ∧ Dig l ∧ Sl (NatIn .u32) 1 w.cell? a l := by
  rcases open_ints Tryz.underlying27 Tryz.underlying123 (by kernel_rfl) h with ⟨hcs, _⟩ | ⟨x, len, c, zs, hcs, _, hl, hm, hz, _, hcell, hwf⟩
  · exact ⟨none, [], 0, by simpa using hcs, by simp, by simp, by simp [Dig], Sl.nil _ _ _ _⟩
  · have hzl : len ≤ zs.length := by
      rw [hz]; split <;> omega
    have hr : ∀ n ∈ zs, 0 ≤ n ∧ n < 4294967296 := fun n hn => by
      have := hwf n hn
      unfold Lit.wf at this
      have : 0 ≤ n ∧ n ≤ 4294967295 := by simpa [IntKind.min, IntKind.max, IntKind.signed, IntKind.bits] using this
      omega
    have hlen : ((zs.take len).map Int.toNat).length = len := by simp; omega
    have hmax : c ≤ 9223372036854775807 := by simpa [maxLen] using hm
    refine ⟨some x, (zs.take len).map Int.toNat, c, by rw [hlen]; simpa using hcs, by omega, by omega, fun d hd => ?_, fun h0 => ?_, fun i hi => ?_⟩
    · obtain ⟨z, hz1, rfl⟩ := List.mem_map.1 hd
      have := hr z (List.mem_of_mem_take hz1)
      rw [B_eq]
      omega
    · obtain ⟨_, b, off, hx⟩ := adr_some (hcell 0 (by omega))
      exact ⟨b, off, by rw [hx]⟩
    · have hi' : i < zs.length := by omega
      have hil : i < len := by omega
      refine ⟨.int .u32 (((zs.take len).map Int.toNat)[i] : Nat), rfl, fun j hj => ?_, rfl⟩
      have hj0 : j = 0 := by simp [Value.cells] at hj; exact hj
      subst hj0
      have h1 := hcell i hi'
      have h2 := (adr_some (hcell 0 (by omega))).1 i
      rw [h2] at h1
      have h3 := hr zs[i] (List.getElem_mem _)
      simp only [Nat.mul_one, Nat.add_zero, List.getElem_map, List.getElem_take]
      rw [h1]
      simp [List.getD_eq_getElem?_getD, hi', Value.cells]
      omega
theorem rat_of {fuel : Nat} {cs : List Value} {x : DataW H × List MemPlace} (hl : cs.length = 3) (h : DataW.trod enc Tryz.prog w base spare held fuel 31 cs = some x) : ∃ u y, cellsL u = cs ∧ QR w.cell? u y := by
  obtain ⟨ys, n', hn', hy, hlen, hyl, hf⟩ := DataW.trod_struct Tryz.underlying31 h
  have c1 : Tryz.prog.cellsOf 29 = 2 := by kernel_rfl
  have c2 : Tryz.prog.cellsOf 27 = 1 := by kernel_rfl
  have c3 : Tryz.prog.cellsOf 4 = 1 := by kernel_rfl
  have f0 : DataW.trod enc Tryz.prog w base spare held n' 29 ((cs.drop 0).take (Tryz.prog.cellsOf 29)) = ys[0]? := hf 0 _ rfl
  have f1 : DataW.trod enc Tryz.prog w base spare held n' 27 ((cs.drop 2).take (Tryz.prog.cellsOf 27)) = ys[1]? := hf 1 _ rfl
  have hyl2 : ys.length = 2 := hyl
  obtain ⟨a, b, c, rfl⟩ : ∃ a b c, cs = [a, b, c] := by
    rcases cs with _ | ⟨a, _ | ⟨b, _ | ⟨c, _ | ⟨d, r⟩⟩⟩⟩
    · simp at hl
    · simp at hl
    · simp at hl
    · exact ⟨a, b, c, rfl⟩
    · simp at hl
  rw [c1] at f0
  rw [c2] at f1
  rw [List.getElem?_eq_getElem (by omega)] at f0 f1
  obtain ⟨zs, n2, _, _, _, hzl, hg⟩ := DataW.trod_struct Tryz.underlying29 f0
  have g0 : DataW.trod enc Tryz.prog w base spare held n2 4 (([a, b].drop 0).take (Tryz.prog.cellsOf 4)) = zs[0]? := hg 0 _ rfl
  have g1 : DataW.trod enc Tryz.prog w base spare held n2 27 (([a, b].drop 1).take (Tryz.prog.cellsOf 27)) = zs[1]? := hg 1 _ rfl
  have hzl2 : zs.length = 2 := hzl
  rw [c3] at g0
  rw [c2] at g1
  rw [List.getElem?_eq_getElem (by omega)] at g0 g1
  obtain ⟨a1, m, k1, e1, p1, p2, p3, p4⟩ := u32s_of g1
  obtain ⟨a2, d, k2, e2, q1, q2, q3, q4⟩ := u32s_of f1
  obtain ⟨s, hs, _⟩ := DataW.trod_bool Tryz.underlying4 g0
  have hs : a = .bool s := by simpa using hs
  subst hs e1 e2
  exact ⟨.agg #[.bool s, .slice a1 m.length k1, .slice a2 d.length k2], (s, m, d), rfl, a1, k1, a2, k2, rfl, p1, q1, p3, q3, p2, q2, p4, q4⟩
theorem rats_of {fuel : Nat} {v : Value} {x : DataW H × List MemPlace} (h : DataW.trod enc Tryz.prog w base spare held fuel 33 [v] = some x) :
    ∃ (a : Option Addr) (L : List RawQ) (cap : Nat), v = .slice a L.length cap ∧ L.length ≤ cap ∧ cap ≤ 9223372036854775807 ∧ Sl QR 3 w.cell? a L :=
  slice_of (R := QR) Tryz.underlying33 (by kernel_rfl) (by decide) QR.elem.size (fun _ _ _ hl h => rat_of hl h) h
theorem ratss_of {fuel : Nat} {v : Value} {x : DataW H × List MemPlace} (h : DataW.trod enc Tryz.prog w base spare held fuel 23 [v] = some x) :
    ∃ (a : Option Addr) (L : List (List RawQ)) (cap : Nat), v = .slice a L.length cap ∧ L.length ≤ cap ∧ cap ≤ 9223372036854775807 ∧ Sl RR 1 w.cell? a L :=
  slice_of (R := RR) Tryz.underlying23 (by kernel_rfl) (by decide) RR.elem.size (fun _ cs _ hl h => by
    match cs, hl with
    | [a], _ =>
      obtain ⟨ao, L, cap, rfl, h1, h2, h3⟩ := rats_of h
      exact ⟨.slice ao L.length cap, L, rfl, ao, cap, rfl, h1, h3⟩) h
end
end Go.Proofs.YtjbhcniiioepgaaGreat


namespace Go.Rep
open Go.RowKit Go.Lim
theorem Sl.raw {X : Nat → Bool} {w : World} {ao : Option Addr} {l : List RawQ} (s : Sl QR 3 (mk X w) ao l) (i : Nat) (hi : i < l.length) :
    ∃ g o a c d e, adr ao (i * 3) = ⟨g, o, none⟩ ∧ X g = false ∧ Hid (∀ Y W', ExtX Y w W' → Y g = false → W'.cell? ⟨g, o, none⟩ = some (.bool l[i].1) ∧ W'.cell? ⟨g, o + 1, none⟩ = some (.slice a l[i].2.1.length c) ∧ W'.cell? ⟨g, o + 2, none⟩ = some (.slice d l[i].2.2.length e)) ∧ QR (mk X w) (.agg #[.bool l[i].1, .slice a l[i].2.1.length c, .slice d l[i].2.2.length e]) l[i] := by
  obtain ⟨u, h1, h2, h3⟩ := s.2 i hi
  obtain ⟨a, c, d, e, rfl⟩ := h3.shape
  have c0 := h2 0 (by simp [Value.cells])
  have c1 := h2 1 (by simp [Value.cells])
  have c2 := h2 2 (by simp [Value.cells])
  refine ⟨(adr ao (i * 3)).block, (adr ao (i * 3)).off, a, c, d, e, rfl, ?_, hid fun Y W' hE hY => ⟨?_, ?_, ?_⟩, h3⟩
  · cases hx : X (adr ao (i * 3)).block
    · rfl
    · have c9 : mk X w (adr ao (i * 3)) = some (.bool l[i].1) := c0
      simp [mk, hx] at c9
  · exact hE.cellY (mk_cell c0) hY
  · exact hE.cellY (mk_cell c1) hY
  · exact hE.cellY (mk_cell c2) hY
/-- The header of a row of numbers asl they came. -/
theorem Sl.rowR {α : Type} {R : Mem → Value → α → Prop} {sz : Nat} {X : Nat → Bool} {w : World} {ao : Option Addr} {m : List (List α)} (s : Sl (SlV R sz) 1 (mk X w) ao m) (i : Nat) (hi : i < m.length) :
    ∃ a c, X (adr ao i).block = false ∧ Hid (∀ Y W', ExtX Y w W' → Y (adr ao i).block = false → W'.cell? (adr ao i) = some (.slice a m[i].length c)) ∧ m[i].length ≤ c ∧ Sl R sz (mk X w) a m[i] := by
  obtain ⟨u, h1, a, c, rfl, h2, h3⟩ := s.cell SlV.one i hi
  refine ⟨a, c, ?_, hid fun Y W' hE hY => hE.cellY (mk_cell h1) hY, h2, h3⟩
  cases hx : X (adr ao i).block
  · rfl
  · simp [mk, hx] at h1
theorem Few.dec {k n m : Nat} {x : RawQ} (h1 : x.2.1.length = n) (h2 : x.2.2.length = m) : (decide (n ≤ k) && decide (m ≤ k)) = true ↔ Few k x := by
  rw [Bool.and_eq_true, decide_eq_true_eq, decide_eq_true_eq]; subst h1 h2; exact Iff.rfl
end Go.Rep
namespace Go.Proofs.YtjbhcniiioepgaaGreat
open Go.RowKit Go.Rep Go.Lim

set_option maxRecDepth 100000 in
theorem light1_any (w : World) (s : Bool) (ao bo : Option Addr) (n c k e : Nat) : Calls Tryz.prog 105 #[.agg #[.bool s, .slice ao n c, .slice bo k e]] w (BOut w (decide (n ≤ 8) && decide (k ≤ 8))) := by
  obtain ⟨W, hW, hE, b0, hz⟩ := boxes1 w #[.bool s, .slice ao n c, .slice bo k e] 31
  obtain ⟨b, hb⟩ : ∃ b, w.heap.size = b := ⟨_, rfl⟩
  rw [hb] at b0 hz
  have k00 := b0.cell 0 rfl
  have k01 := b0.cell 1 rfl
  have k02 := b0.cell 2 rfl
  clear hz
  by_cases h1 : n ≤ 8
  · have h1' : (n : Int) ≤ 8 := by omega
    by_cases h2 : k ≤ 8
    · have h2' : (k : Int) ≤ 8 := by omega
      have hr := hid (show true = (decide (n ≤ 8) && decide (k ≤ 8)) by simp [h1, h2])
      clear h1 h2
      go_enter Tryz.func105, Tryz.ntmps105
      go_wp2_with fail
      go_ret
      exact ⟨hE, ret_bool hr.out⟩
    · have h2' : ¬ (k : Int) ≤ 8 := by omega
      have hr := hid (show false = (decide (n ≤ 8) && decide (k ≤ 8)) by simp [h2])
      clear h1 h2
      go_enter Tryz.func105, Tryz.ntmps105
      go_wp2_with fail
      go_ret
      exact ⟨hE, ret_bool hr.out⟩
  · have h1' : ¬ (n : Int) ≤ 8 := by omega
    have hr := hid (show false = (decide (n ≤ 8) && decide (k ≤ 8)) by simp [h1])
    clear h1
    go_enter Tryz.func105, Tryz.ntmps105
    go_wp2_with fail
    go_ret
    exact ⟨hE, ret_bool hr.out⟩
/-- A list is light. -/
def lightL (l : List RawQ) (most : Nat) : Bool := decide (l.length ≤ most ∧ ∀ x ∈ l, Few 8 x)
def smallM (m : List (List RawQ)) : Bool := decide (m.length ≤ 4 ∧ ∀ r ∈ m, r.length ≤ 4 ∧ ∀ x ∈ r, Few 2 x)

set_option maxRecDepth 100000 in
theorem lightlist_any (X : Nat → Bool) (w : World) (u : Value) (l : List RawQ) (most : Nat) (hu : RR (mk X w) u l) (hm : most ≤ 1000) : Calls Tryz.prog 43 #[u, .int .i64 (most : Int)] w (BOut w (lightL l most)) := by
  obtain ⟨ao, ca, rfl, hca, hsa⟩ := hu
  have hh := hsa.hd
  by_cases hl : l.length ≤ most
  · have hng : ¬ (most : Int) < (l.length : Int) := by omega
    have hyes : Hid ((∀ p (hp : p < l.length), Few 8 l[p]) → lightL l most = true) := hid fun h => decide_eq_true ⟨hl, fun x hx => by obtain ⟨p, hp, rfl⟩ := List.getElem_of_mem hx; exact h p hp⟩
    have hno : Hid (∀ p (hp : p < l.length), ¬ Few 8 l[p] → lightL l most = false) := hid fun p hp h => decide_eq_false fun h2 => h (h2.2 _ (List.getElem_mem _))
    obtain ⟨n, hn⟩ : ∃ n, l.length = n := ⟨_, rfl⟩
    have hn' := hid hn
    have hn6 : n ≤ 1000 := by omega
    rw [hn] at hh hng ⊢
    clear hl hn hca
    go_enter Tryz.func43, Tryz.ntmps43
    go_wp2_with fail
    go_loopw [5] (fun c wr => ∃ i : Nat, c = .int .i64 i ∧ i ≤ n ∧ Hid (∀ p (hp : p < l.length), p < i → Few 8 l[p]) ∧ Ext w wr) (fun c _ => n - (intOf c).toNat)
    case atStart => exact ⟨0, rfl, Nat.zero_le _, hid (fun p hp h => by omega), ExtX.refl _⟩
    case round =>
      obtain ⟨i, rfl, hi, hok, hE⟩ := hrel
      by_cases hlt : i < n
      · have hil : i < l.length := by rw [hn'.out]; exact hlt
        have hsr := hsa.mono QR.mono (mk_ext hE)
        obtain ⟨g, o, a, c, d, e, _, _, _, hq⟩ := hsr.raw i hil
        by_cases hf : Few 8 l[i]
        · have hL : Hid ((decide (l[i].2.1.length ≤ 8) && decide (l[i].2.2.length ≤ 8)) = true) := hid ((Few.dec rfl rfl).2 hf)
          have hok2 : Hid (∀ p (hp : p < l.length), p < i + 1 → Few 8 l[p]) := hid fun p hp hpi => by
            by_cases h : p = i
            · subst h; exact hf
            · exact hok.out p hp (by omega)
          clear hf
          go_wp2_with (first | (with_reducible refine up_ixn slRat (by omega) (by assumption) ?_) | ((with_reducible show wpList _ _ _ (⟨_, .load 31 _, _, _, _, _⟩ :: _) _ _); refine st_loadElem stRat i hsr hil rfl (by simp) QR.agg ?_; intro u5 hu5; obtain ⟨a5, c5, d5, e5, rfl⟩ := hu5.shape))
          refine (light1_any wr _ _ _ _ _ _ _).mono ?_
          rintro ee w5 ⟨hE5, rfl⟩
          rw [hL.out]
          go_wp2_with fail
          go_roundw
          case rel => exact ⟨i + 1, by go_num, by omega, hok2, hE.trans hE5⟩
          case measure => simp [intOf]; omega
        · have hL : Hid ((decide (l[i].2.1.length ≤ 8) && decide (l[i].2.2.length ≤ 8)) = false) := hid (by
            cases hb : (decide (l[i].2.1.length ≤ 8) && decide (l[i].2.2.length ≤ 8))
            · rfl
            · exact absurd ((Few.dec rfl rfl).1 hb) hf)
          have hr := hid (hno.out i hil hf).symm
          clear hf
          go_wp2_with (first | (with_reducible refine up_ixn slRat (by omega) (by assumption) ?_) | ((with_reducible show wpList _ _ _ (⟨_, .load 31 _, _, _, _, _⟩ :: _) _ _); refine st_loadElem stRat i hsr hil rfl (by simp) QR.agg ?_; intro u5 hu5; obtain ⟨a5, c5, d5, e5, rfl⟩ := hu5.shape))
          refine (light1_any wr _ _ _ _ _ _ _).mono ?_
          rintro ee w5 ⟨hE5, rfl⟩
          rw [hL.out]
          go_wp2_with fail
          go_ret
          exact ⟨hE.trans hE5, ret_bool hr.out⟩
      · have hr := hid (hyes.out fun p hp => hok.out p hp (by rw [hn'.out] at hp; omega)).symm
        have hin : i = n := by omega
        subst hin
        go_wp2_with fail
        go_ret
        exact ⟨hE, ret_bool hr.out⟩
  · have hg : (most : Int) < (l.length : Int) := by omega
    have hr : Hid (false = lightL l most) := hid (decide_eq_false fun h => hl h.1).symm
    clear hl
    go_enter Tryz.func43, Tryz.ntmps43
    go_wp2_with fail
    go_ret
    exact ⟨ExtX.refl _, ret_bool hr.out⟩

end Go.Proofs.YtjbhcniiioepgaaGreat


namespace Go.Lim
end Go.Lim
namespace Go.Proofs.YtjbhcniiioepgaaGreat
open Go.RowKit Go.Rep Go.Lim Go.Lin

end Go.Proofs.YtjbhcniiioepgaaGreat


namespace Go.Proofs.YtjbhcniiioepgaaGreat
open Go.RowKit Go.Rep Go.Lim

theorem smallM_no {m : List (List RawQ)} {i : Nat} (hi : i < m.length) (h : ¬ (m[i].length ≤ 4 ∧ ∀ x ∈ m[i], Few 2 x)) : smallM m = false :=
  decide_eq_false fun h2 => h (h2.2 _ (List.getElem_mem hi))

set_option maxRecDepth 100000 in
set_option maxHeartbeats 800000 in
theorem small_any (X : Nat → Bool) (w : World) (u : Value) (m : List (List RawQ)) (hu : MR (mk X w) u m) : Calls Tryz.prog 33 #[u] w (BOut w (smallM m)) := by
  obtain ⟨ao, ca, rfl, hca, hsa⟩ := hu
  have hh := hsa.hd
  by_cases hl : m.length ≤ 4
  · have hng : ¬ (4 : Int) < (m.length : Int) := by omega
    have hyes : Hid ((∀ p (hp : p < m.length), m[p].length ≤ 4 ∧ ∀ x ∈ m[p], Few 2 x) → smallM m = true) := hid fun h => decide_eq_true ⟨hl, fun x hx => by obtain ⟨p, hp, rfl⟩ := List.getElem_of_mem hx; exact h p hp⟩
    obtain ⟨n, hn⟩ : ∃ n, m.length = n := ⟨_, rfl⟩
    have hn' := hid hn
    have hn6 : n ≤ 4 := by omega
    rw [hn] at hh hng ⊢
    clear hl hn hca
    go_enter Tryz.func33, Tryz.ntmps33
    go_wp2_with fail
    go_loopw [3] (fun cc wr => ∃ i : Nat, cc = .int .i64 i ∧ i ≤ n ∧ Hid (∀ p (hp : p < m.length), p < i → m[p].length ≤ 4 ∧ ∀ x ∈ m[p], Few 2 x) ∧ w = wr) (fun cc _ => n - (intOf cc).toNat)
    case atStart => exact ⟨0, rfl, Nat.zero_le _, hid (fun p hp h => by omega), rfl⟩
    case round =>
      obtain ⟨i, rfl, hi, hok, rfl⟩ := hrel
      by_cases hlt : i < n
      · have hil : i < m.length := by rw [hn'.out]; exact hlt
        obtain ⟨a1, c1, hX1, hc1, hcl1, hq1⟩ := hsa.rowR i hil
        have k00 := hc1.out noY w (ExtX.refl _) rfl
        have hno : Hid (¬ (m[i].length ≤ 4 ∧ ∀ x ∈ m[i], Few 2 x) → false = smallM m) := hid fun h => (smallM_no hil h).symm
        have hok2 : Hid ((m[i].length ≤ 4 ∧ ∀ x ∈ m[i], Few 2 x) → ∀ p (hp : p < m.length), p < i + 1 → m[p].length ≤ 4 ∧ ∀ x ∈ m[p], Few 2 x) := hid fun h p hp hpi => by
          by_cases e : p = i
          · subst e; exact h
          · exact hok.out p hp (by omega)
        obtain ⟨r, hr⟩ : ∃ r, m[i] = r := ⟨_, rfl⟩
        rw [hr] at k00 hcl1 hq1 hno hok2
        have hh1 := hq1.hd
        have i1 : ∀ W, (Instr.indexAt 23 (.slice ao n ca) (.int .i64 (i : Int))).run Tryz.prog W = .ok (.pointer (some (adr ao i))) W := run_ix1 slRats ao n ca .i64 i hh (by omega) rfl
        clear hc1 hr
        by_cases hx4 : r.length ≤ 4
        · obtain ⟨c, hc⟩ : ∃ c, r.length = c := ⟨_, rfl⟩
          have hc' := hid hc
          rw [hc] at k00 hx4 hcl1 hh1
          have hn4 : ¬ (4 : Int) < (c : Int) := by omega
          clear hc
          go_wp2_with fail
          go_loopw [4] (fun cc wr => ∃ j : Nat, cc = .int .i64 j ∧ j ≤ c ∧ Hid (∀ p (hp : p < r.length), p < j → Few 2 r[p]) ∧ w = wr) (fun cc _ => c - (intOf cc).toNat)
          case atStart => exact ⟨0, rfl, Nat.zero_le _, hid (fun p hp h => by omega), rfl⟩
          case round =>
            obtain ⟨j, rfl, hj, hokj, rfl⟩ := hrel
            by_cases hlj : j < c
            · have hjr : j < r.length := by rw [hc'.out]; exact hlj
              obtain ⟨g, o, a2, c2, d2, e2, hg, hX2, hc2, hq2⟩ := hq1.raw j hjr
              obtain ⟨k10, k11, k12⟩ := hc2.out noY w (ExtX.refl _) rfl
              have i2 : ∀ W, (Instr.indexAt 33 (.slice a1 c c1) (.int .i64 (j : Int))).run Tryz.prog W = .ok (.pointer (some ⟨g, o, none⟩)) W := by rw [← hg]; exact run_indexAt_adr slRat a1 c c1 .i64 j hh1 (by omega)
              have hfew : Hid (Few 2 r[j] → ∀ p (hp : p < r.length), p < j + 1 → Few 2 r[p]) := hid fun h p hp hpi => by
                by_cases e : p = j
                · subst e; exact h
                · exact hokj.out p hp (by omega)
              have hbad : Hid (¬ Few 2 r[j] → false = smallM m) := hid fun h => hno.out fun h2 => h (h2.2 _ (List.getElem_mem _))
              obtain ⟨n1, hn1⟩ : ∃ n1, r[j].2.1.length = n1 := ⟨_, rfl⟩
              obtain ⟨n2, hn2⟩ : ∃ n2, r[j].2.2.length = n2 := ⟨_, rfl⟩
              have hfd : Hid (Few 2 r[j] ↔ n1 ≤ 2 ∧ n2 ≤ 2) := hid (by rw [← hn1, ← hn2])
              rw [hn1] at k11
              rw [hn2] at k12
              clear hc2 hq2 hg hn1 hn2
              by_cases h1 : n1 ≤ 2
              · have h1' : ¬ (2 : Int) < (n1 : Int) := by omega
                by_cases h2 : n2 ≤ 2
                · have h2' : ¬ (2 : Int) < (n2 : Int) := by omega
                  have hnext := hid (hfew.out (hfd.out.2 ⟨h1, h2⟩))
                  clear h1 h2
                  go_wp2_with fail
                  go_roundw
                  case rel => exact ⟨j + 1, by go_num, by omega, hnext, trivial⟩
                  case measure => simp [intOf]; omega
                · have h2' : (2 : Int) < (n2 : Int) := by omega
                  have hend := hid (hbad.out fun h => h2 (hfd.out.1 h).2)
                  clear h1 h2
                  go_wp2_with fail
                  go_ret
                  exact ⟨ExtX.refl _, ret_bool hend.out⟩
              · have h1' : (2 : Int) < (n1 : Int) := by omega
                have hend := hid (hbad.out fun h => h1 (hfd.out.1 h).1)
                clear h1
                go_wp2_with fail
                go_ret
                exact ⟨ExtX.refl _, ret_bool hend.out⟩
            · have hjc : j = c := by omega
              have hnext := hid (hok2.out ⟨by rw [hc'.out]; exact hx4, fun x hx => by obtain ⟨p, hp, rfl⟩ := List.getElem_of_mem hx; exact hokj.out p hp (by rw [hc'.out] at hp; omega)⟩)
              subst hjc
              go_wp2_with fail
              go_roundw
              case rel => exact ⟨i + 1, by go_num, by omega, hnext, trivial⟩
              case measure => simp [intOf]; omega
        · have h0 : (0 : Int) < (r.length : Int) := by omega
          have hn4 : (4 : Int) < (r.length : Int) := by omega
          have hend := hid (hno.out fun h => hx4 h.1)
          clear hx4
          go_wp2_with fail
          go_loopw [4] (fun cc wr => cc = .int .i64 0 ∧ w = wr) (fun _ _ => 0)
          case atStart => exact ⟨rfl, rfl⟩
          case round =>
            obtain ⟨rfl, rfl⟩ := hrel
            go_wp2_with fail
            go_ret
            exact ⟨ExtX.refl _, ret_bool hend.out⟩
      · have hr := hid (hyes.out fun p hp => hok.out p hp (by rw [hn'.out] at hp; omega)).symm
        have hin : i = n := by omega
        subst hin
        go_wp2_with fail
        go_ret
        exact ⟨ExtX.refl _, ret_bool hr.out⟩
  · have hg : (4 : Int) < (m.length : Int) := by omega
    have hr : Hid (false = smallM m) := hid (decide_eq_false fun h => hl h.1).symm
    clear hl
    go_enter Tryz.func33, Tryz.ntmps33
    go_wp2_with fail
    go_ret
    exact ⟨ExtX.refl _, ret_bool hr.out⟩
end Go.Proofs.YtjbhcniiioepgaaGreat


namespace Go.Proofs.YtjbhcniiioepgaaGreat
open Go.RowKit Go.Rep Go.Lim
theorem natlist_eq_of {a b : List Nat} (hl : a.length = b.length) (h : ∀ i (hi : i < a.length) (hj : i < b.length), a[i] = b[i]) : a = b := List.ext_getElem hl h
theorem drewQ {w wr : World} (h : Hid (∃ m, wr = w.drewN m)) (n : Nat) : ∃ m, wr.drewN n = w.drewN m := by
  obtain ⟨m, rfl⟩ := h
  exact ⟨_, World.drewN_drewN _ _ _⟩

theorem rsamei_any (X : Nat → Bool) (ao bo : Option Addr) (a b : List Nat) (ca cb : Nat) (w : World) (hsa : Sl (NatIn .i64) 1 (mk X w) ao a) (hsb : Sl (NatIn .i64) 1 (mk X w) bo b) (hla : a.length ≤ 1099511627776) :
    Calls Tryz.prog 24 #[.slice ao a.length ca, .slice bo b.length cb] w fun e w' => e = .returned (.bool (a == b)) ∧ ∃ m, w' = w.drewN m := by
  have hha := hsa.hd
  have hhb := hsb.hd
  by_cases hlen : a.length = b.length
  · have hbl : b.length ≤ a.length := by omega
    have hab : a.length ≤ b.length := by omega
    have hne : ((a.length : Int) != b.length) = false := bneF (by omega)
    have hlen' := hid hlen
    clear hlen
    go_enter Tryz.func24, Tryz.ntmps24
    go_wp2_with fail
    go_loopw [5] (fun c wr => ∃ i : Nat, c = .int .i64 i ∧ i ≤ a.length ∧ Hid (∀ p, p < i → ∀ (hp : p < a.length) (hq : p < b.length), a[p] = b[p]) ∧ ∃ m, wr = w.drewN m) (fun c _ => a.length - (intOf c).toNat)
    case atStart => exact ⟨0, rfl, Nat.zero_le _, fun p hp => by omega, 0, rfl⟩
    case round =>
      obtain ⟨i, rfl, hi, hok, hDr⟩ := hrel
      have hDq : Hid (∃ m, wr = w.drewN m) := hid hDr
      have hE : Ext w wr := by
        obtain ⟨m, hm⟩ := hDr
        rw [hm]; exact (ExtX.refl w).drewN m
      clear hDr
      by_cases hlt : i < a.length
      · have hlt2 : i < b.length := by omega
        have c1 := (hsa.mono (NatIn.mono _) (mk_ext hE)).nat i hlt
        have c2 := (hsb.mono (NatIn.mono _) (mk_ext hE)).nat i hlt2
        have i1 : ∀ W, (Instr.indexAt 22 (.slice ao a.length ca) (.int .i64 (i : Int))).run Tryz.prog W = .ok (.pointer (some (adr ao i))) W := run_ix1 slInt ao a.length ca .i64 i hha (by omega) rfl
        have i2 : ∀ W, (Instr.indexAt 22 (.slice bo b.length cb) (.int .i64 (i : Int))).run Tryz.prog W = .ok (.pointer (some (adr bo i))) W := run_ix1 slInt bo b.length cb .i64 i hhb (by omega) rfl
        obtain ⟨x, hx⟩ : ∃ x, a[i] = x := ⟨_, rfl⟩
        obtain ⟨y, hy⟩ : ∃ y, b[i] = y := ⟨_, rfl⟩
        rw [hx] at c1
        rw [hy] at c2
        have hx' := hid hx
        have hy' := hid hy
        clear hx hy
        by_cases hxy : x = y
        · have hn : Hid (∀ (hp : i < a.length) (hq : i < b.length), a[i] = b[i]) := hid fun _ _ => by rw [hx'.out, hy'.out, hxy]
          have hb : ((x : Int) != (y : Int)) = false := bneF (by omega)
          clear hxy
          go_wp2_with fail
          go_quiet (fail)
          go_wp2_with fail
          go_roundw
          case rel => exact ⟨i + 1, by go_num, by omega, upto_succ hok.out hn.out, drewQ hDq _⟩
          case measure => simp [intOf]; omega
        · have hv : Hid ((a == b) = false) := hid (by
            cases h : a == b
            · rfl
            · have := eq_of_beq h; subst this; exact absurd (hx'.out.symm.trans hy'.out) hxy)
          have hb : ((x : Int) != (y : Int)) = true := bneT (by omega)
          clear hxy
          go_wp2_with fail
          go_quiet (fail)
          go_wp2_with fail
          go_ret
          exact ⟨ret_bool hv.out.symm, drewQ hDq _⟩
      · have hv : Hid ((a == b) = true) := hid (by rw [natlist_eq_of hlen'.out fun p hp hq => hok.out p (by omega) hp hq]; simp)
        go_wp2_with fail
        go_ret
        exact ⟨ret_bool hv.out.symm, hDq.out⟩
  · have hne : ((a.length : Int) != b.length) = true := bneT (by omega)
    have hv : Hid ((a == b) = false) := hid (by
      cases h : a == b
      · rfl
      · have := eq_of_beq h; subst this; exact absurd rfl hlen)
    clear hlen
    go_enter Tryz.func24, Tryz.ntmps24
    go_wp2_with fail
    go_ret
    exact ⟨ret_bool hv.out.symm, 0, rfl⟩

end Go.Proofs.YtjbhcniiioepgaaGreat


namespace Go.Proofs.YtjbhcniiioepgaaGreat
open Go.RowKit Go.Rep Go.Lim

end Go.Proofs.YtjbhcniiioepgaaGreat


namespace Go.Proofs.YtjbhcniiioepgaaGreat
open Go.RowKit Go.Rep Go.Lim

set_option maxRecDepth 100000 in
theorem rqsame (X : Nat → Bool) (w : World) (u v : Value) (x y : Rat) (hu : QC (mk X w) u x) (hv : QC (mk X w) v y) (hx : hq x ≤ 68719476736) : Calls Tryz.prog 41 #[u, v] w (BOut w (decide (x = y))) := by
  replace hx := hid hx
  obtain ⟨s1, a1, n1, c1, d1, k1, e1, rfl⟩ := hu.shape
  obtain ⟨s2, a2, n2, c2, d2, k2, e2, rfl⟩ := hv.shape
  obtain ⟨W, hW, hE, b0, b1, hz⟩ := boxes2 w #[.bool s1, .slice a1 n1 c1, .slice d1 k1 e1] #[.bool s2, .slice a2 n2 c2, .slice d2 k2 e2] 31 31
  have hu1 := mkx QC.mono hu hE
  have hv1 := mkx QC.mono hv hE
  obtain ⟨b, hb⟩ : ∃ b, w.heap.size = b := ⟨_, rfl⟩
  rw [hb] at b0 b1 hz
  have k00 := b0.cell 0 rfl
  have k01 := b0.cell 1 rfl
  have k02 := b0.cell 2 rfl
  have k10 := b1.cell 0 rfl
  have k11 := b1.cell 1 rfl
  have k12 := b1.cell 2 rfl
  clear hu hv
  obtain ⟨hxz, _, hxd⟩ := hu1.num
  obtain ⟨hyz, _, hyd⟩ := hv1.num
  have hl1 := hid (Nat.le_trans (hq_num x) (Nat.le_trans hx.out (by decide : (68719476736 : Nat) ≤ 1099511627776)))
  have hl2 := hid (Nat.le_trans (hq_dn x) (Nat.le_trans hx.out (by decide : (68719476736 : Nat) ≤ 1099511627776)))
  by_cases h1 : x.num = y.num
  · have hr : Hid (decide (dn x = dn y) = decide (x = y)) := hid (by
      rw [Bool.eq_iff_iff, decide_eq_true_eq, decide_eq_true_eq]
      constructor
      · intro h
        refine Rat.ext h1 ?_
        have := dn_zero x; have := dn_zero y
        unfold dn at h
        have := x.den_nz; have := y.den_nz
        split at h <;> split at h <;> omega
      · rintro rfl; rfl)
    have hd : Hid (decide (x.num = y.num) = true) := hid (decide_eq_true h1)
    clear h1
    go_enter Tryz.func41, Tryz.ntmps41
    go_wp2_with fail
    refine (risame X W _ _ _ _ hxz hyz hl1.out).mono ?_
    rintro e w5 ⟨hE5, rfl⟩
    rw [hd.out]
    have j02 := (b0.ext0 hE5).cell 2 rfl
    have j12 := (b1.ext0 hE5).cell 2 rfl
    clear k00 k01 k02 k10 k11 k12
    go_wp2_with fail
    refine (rnsame X w5 _ _ _ _ (mkx NC.mono hxd hE5) (mkx NC.mono hyd hE5) hl2.out).mono ?_
    rintro e w6 ⟨rfl, m, rfl⟩
    go_wp2_with fail
    go_ret
    exact ⟨(hE.trans hE5).drewN m, ret_bool hr.out⟩
  · have hr : Hid (false = decide (x = y)) := hid (decide_eq_false (by rintro rfl; exact h1 rfl)).symm
    have hd : Hid (decide (x.num = y.num) = false) := hid (decide_eq_false h1)
    clear h1
    go_enter Tryz.func41, Tryz.ntmps41
    go_wp2_with fail
    refine (risame X W _ _ _ _ hxz hyz hl1.out).mono ?_
    rintro e w5 ⟨hE5, rfl⟩
    rw [hd.out]
    clear k00 k01 k02 k10 k11 k12
    go_wp2_with fail
    go_ret
    exact ⟨hE.trans hE5, ret_bool hr.out⟩
end Go.Proofs.YtjbhcniiioepgaaGreat


namespace Go.Proofs.YtjbhcniiioepgaaGreat
open Go.RowKit Go.Rep Go.Lim

theorem ratlist_eq {a b : List Rat} (hl : a.length = b.length) (h : ∀ p, p < a.length → ∀ (hp : p < a.length) (hq : p < b.length), a[p] = b[p]) : a = b := List.ext_getElem hl fun i h1 h2 => h i h1 h1 h2

set_option maxRecDepth 100000 in
theorem rqsamelist (X : Nat → Bool) (w : World) (u v : Value) (a b : List Rat) (hu : RC (mk X w) u a) (hv : RC (mk X w) v b) (hB : BR 68719476736 a) (hla : a.length ≤ 1099511627776) : Calls Tryz.prog 52 #[u, v] w (BOut w (decide (a = b))) := by
  obtain ⟨ao, ca, rfl, hca, hsa⟩ := hu
  obtain ⟨bo, cb, rfl, hcb, hsb⟩ := hv
  have hha := hsa.hd
  have hhb := hsb.hd
  have hB' := hid hB
  clear hB
  by_cases hlen : a.length = b.length
  · have hbl : b.length ≤ a.length := by omega
    have hab : a.length ≤ b.length := by omega
    have hne : ((a.length : Int) != b.length) = false := bneF (by omega)
    have hlen' := hid hlen
    clear hlen
    go_enter Tryz.func52, Tryz.ntmps52
    go_wp2_with fail
    go_loopw [5] (fun c wr => ∃ i : Nat, c = .int .i64 i ∧ i ≤ a.length ∧ Hid (∀ p, p < i → ∀ (hp : p < a.length) (hq : p < b.length), a[p] = b[p]) ∧ Ext w wr) (fun c _ => a.length - (intOf c).toNat)
    case atStart => exact ⟨0, rfl, Nat.zero_le _, fun p hp => by omega, ExtX.refl _⟩
    case round =>
      obtain ⟨i, rfl, hi, hok, hE⟩ := hrel
      by_cases hlt : i < a.length
      · have hlt2 : i < b.length := by omega
        obtain ⟨g1, o1, s1, a1, n1, c1, d1, k1, e1, hg1, hX1, hc1, hq1⟩ := (hsa.mono QC.mono (mk_ext hE)).rat QC.shaped i hlt
        obtain ⟨g2, o2, s2, a2, n2, c2, d2, k2, e2, hg2, hX2, hc2, hq2⟩ := (hsb.mono QC.mono (mk_ext hE)).rat QC.shaped i hlt2
        have i1 : ∀ W, (Instr.indexAt 33 (.slice ao a.length ca) (.int .i64 (i : Int))).run Tryz.prog W = .ok (.pointer (some ⟨g1, o1, none⟩)) W := by rw [← hg1]; exact run_indexAt_adr slRat ao a.length ca .i64 i hha (by omega)
        have i2 : ∀ W, (Instr.indexAt 33 (.slice bo b.length cb) (.int .i64 (i : Int))).run Tryz.prog W = .ok (.pointer (some ⟨g2, o2, none⟩)) W := by rw [← hg2]; exact run_indexAt_adr slRat bo b.length cb .i64 i hhb (by omega)
        have hEd : Ext wr wr.drew := (ExtX.refl wr).drew
        have hS : Hid (∀ W', Ext wr.drew W' → W'.cell? ⟨g1, o1, none⟩ = some (.bool s1) ∧ W'.cell? ⟨g1, o1 + 1, none⟩ = some (.slice a1 n1 c1) ∧ W'.cell? ⟨g1, o1 + 2, none⟩ = some (.slice d1 k1 e1) ∧ W'.cell? ⟨g2, o2, none⟩ = some (.bool s2) ∧ W'.cell? ⟨g2, o2 + 1, none⟩ = some (.slice a2 n2 c2) ∧ W'.cell? ⟨g2, o2 + 2, none⟩ = some (.slice d2 k2 e2)) := hid fun W' h => by
          have p1 := hc1.out noY W' (hEd.trans h) rfl
          have p2 := hc2.out noY W' (hEd.trans h) rfl
          exact ⟨p1.1, p1.2.1, p1.2.2, p2.1, p2.2.1, p2.2.2⟩
        obtain ⟨k00, k01, k02, k10, k11, k12⟩ := hS.out wr.drew (ExtX.refl _)
        have hbq := hid (hB'.out a[i] (List.getElem_mem _))
        have hq1d : QC (mk X wr.drew) (.agg #[.bool s1, .slice a1 n1 c1, .slice d1 k1 e1]) a[i] := hq1
        have hq2d : QC (mk X wr.drew) (.agg #[.bool s2, .slice a2 n2 c2, .slice d2 k2 e2]) b[i] := hq2
        obtain ⟨x, hx⟩ : ∃ x, a[i] = x := ⟨_, rfl⟩
        obtain ⟨y, hy⟩ : ∃ y, b[i] = y := ⟨_, rfl⟩
        rw [hx] at hq1d hbq
        rw [hy] at hq2d
        have hx' := hid hx
        have hy' := hid hy
        clear hx hy hc1 hc2 hg1 hg2 hq1 hq2
        by_cases hxy : x = y
        · have hn : Hid (∀ (hp : i < a.length) (hq : i < b.length), a[i] = b[i]) := hid fun _ _ => by rw [hx'.out, hy'.out, hxy]
          have hb := hid (decide_eq_true hxy)
          clear hxy
          go_wp2_with fail
          go_region_held3 (fun w' => w'.cell? ⟨g1, o1, none⟩ = some (.bool s1) ∧ w'.cell? ⟨g1, o1 + 1, none⟩ = some (.slice a1 n1 c1) ∧ w'.cell? ⟨g1, o1 + 2, none⟩ = some (.slice d1 k1 e1) ∧ w'.cell? ⟨g2, o2, none⟩ = some (.bool s2) ∧ w'.cell? ⟨g2, o2 + 1, none⟩ = some (.slice a2 n2 c2) ∧ w'.cell? ⟨g2, o2 + 2, none⟩ = some (.slice d2 k2 e2))
            (first | exact hS.out _ t1 | go_keep)
            ((go_at_call 41; (with_reducible refine (rqsame X wr.drew _ _ x y hq1d hq2d hbq.out).mono ?_); rintro ee w5 ⟨t1, rfl⟩; rw [hb.out]))
          have hE5 := hE.trans (hEd.trans t1)
          clear k00 k01 k02 k10 k11 k12
          go_wp2_with fail
          go_roundw
          case rel => exact ⟨i + 1, by go_num, by omega, upto_succ hok.out hn.out, hE5⟩
          case measure => simp [intOf]; omega
        · have hv : Hid (false = decide (a = b)) := hid (by
            symm
            rw [decide_eq_false_iff_not]
            intro h; subst h; exact hxy (hx'.out.symm.trans hy'.out))
          have hb := hid (decide_eq_false hxy)
          clear hxy
          go_wp2_with fail
          go_region_held3 (fun w' => w'.cell? ⟨g1, o1, none⟩ = some (.bool s1) ∧ w'.cell? ⟨g1, o1 + 1, none⟩ = some (.slice a1 n1 c1) ∧ w'.cell? ⟨g1, o1 + 2, none⟩ = some (.slice d1 k1 e1) ∧ w'.cell? ⟨g2, o2, none⟩ = some (.bool s2) ∧ w'.cell? ⟨g2, o2 + 1, none⟩ = some (.slice a2 n2 c2) ∧ w'.cell? ⟨g2, o2 + 2, none⟩ = some (.slice d2 k2 e2))
            (first | exact hS.out _ t1 | go_keep)
            ((go_at_call 41; (with_reducible refine (rqsame X wr.drew _ _ x y hq1d hq2d hbq.out).mono ?_); rintro ee w5 ⟨t1, rfl⟩; rw [hb.out]))
          have hE5 := hE.trans (hEd.trans t1)
          clear k00 k01 k02 k10 k11 k12
          go_wp2_with fail
          go_ret
          exact ⟨hE5, ret_bool hv.out⟩
      · have hv : Hid (true = decide (a = b)) := hid (by
          symm
          rw [decide_eq_true_eq]
          exact ratlist_eq hlen'.out fun p hp => hok.out p (by omega))
        go_wp2_with fail
        go_ret
        exact ⟨hE, ret_bool hv.out⟩
  · have hne : ((a.length : Int) != b.length) = true := bneT (by omega)
    have hv : Hid (false = decide (a = b)) := hid (by
      symm
      rw [decide_eq_false_iff_not]
      intro h; subst h; exact hlen rfl)
    clear hlen
    go_enter Tryz.func52, Tryz.ntmps52
    go_wp2_with fail
    go_ret
    exact ⟨ExtX.refl _, ret_bool hv.out⟩
end Go.Proofs.YtjbhcniiioepgaaGreat


namespace Go.Proofs.YtjbhcniiioepgaaGreat
open Go.RowKit Go.Rep Go.Lim
theorem ratlists_eq {a b : List (List Rat)} (hl : a.length = b.length) (h : ∀ p, p < a.length → ∀ (hp : p < a.length) (hq : p < b.length), a[p] = b[p]) : a = b := List.ext_getElem hl fun i h1 h2 => h i h1 h1 h2

set_option maxRecDepth 100000 in
theorem rqsamelists (X : Nat → Bool) (w : World) (u v : Value) (a b : List (List Rat)) (hu : MC (mk X w) u a) (hv : MC (mk X w) v b) (hB : BM 68719476736 a) (hla : a.length ≤ 1099511627776) (hrl : ∀ r ∈ a, r.length ≤ 1099511627776) : Calls Tryz.prog 23 #[u, v] w (BOut w (decide (a = b))) := by
  obtain ⟨ao, ca, rfl, hca, hsa⟩ := hu
  obtain ⟨bo, cb, rfl, hcb, hsb⟩ := hv
  have hha := hsa.hd
  have hhb := hsb.hd
  have hB' := hid hB
  have hrl' := hid hrl
  clear hB hrl
  by_cases hlen : a.length = b.length
  · have hbl : b.length ≤ a.length := by omega
    have hab : a.length ≤ b.length := by omega
    have hne : ((a.length : Int) != b.length) = false := bneF (by omega)
    have hlen' := hid hlen
    clear hlen
    go_enter Tryz.func23, Tryz.ntmps23
    go_wp2_with fail
    go_loopw [5] (fun c wr => ∃ i : Nat, c = .int .i64 i ∧ i ≤ a.length ∧ Hid (∀ p, p < i → ∀ (hp : p < a.length) (hq : p < b.length), a[p] = b[p]) ∧ Ext w wr) (fun c _ => a.length - (intOf c).toNat)
    case atStart => exact ⟨0, rfl, Nat.zero_le _, fun p hp => by omega, ExtX.refl _⟩
    case round =>
      obtain ⟨i, rfl, hi, hok, hE⟩ := hrel
      by_cases hlt : i < a.length
      · have hlt2 : i < b.length := by omega
        obtain ⟨a1, c1, hX1, hc1, hcl1, hq1⟩ := (hsa.mono RC.mono (mk_ext hE)).row i hlt
        obtain ⟨a2, c2, hX2, hc2, hcl2, hq2⟩ := (hsb.mono RC.mono (mk_ext hE)).row i hlt2
        have i1 : ∀ W, (Instr.indexAt 23 (.slice ao a.length ca) (.int .i64 (i : Int))).run Tryz.prog W = .ok (.pointer (some (adr ao i))) W := run_ix1 slRats ao a.length ca .i64 i hha (by omega) rfl
        have i2 : ∀ W, (Instr.indexAt 23 (.slice bo b.length cb) (.int .i64 (i : Int))).run Tryz.prog W = .ok (.pointer (some (adr bo i))) W := run_ix1 slRats bo b.length cb .i64 i hhb (by omega) rfl
        have hEd : Ext wr wr.drew := (ExtX.refl wr).drew
        have hS : Hid (∀ W', Ext wr.drew W' → W'.cell? (adr ao i) = some (.slice a1 a[i].length c1) ∧ W'.cell? (adr bo i) = some (.slice a2 b[i].length c2)) := hid fun W' h => ⟨hc1.out noY W' (hEd.trans h) rfl, hc2.out noY W' (hEd.trans h) rfl⟩
        obtain ⟨k00, k10⟩ := hS.out wr.drew (ExtX.refl _)
        have hbq := hid (hB'.out a[i] (List.getElem_mem _))
        have hbl2 := hid (hrl'.out a[i] (List.getElem_mem _))
        have hq1d : RC (mk X wr.drew) (.slice a1 a[i].length c1) a[i] := ⟨a1, c1, rfl, hcl1, hq1⟩
        have hq2d : RC (mk X wr.drew) (.slice a2 b[i].length c2) b[i] := ⟨a2, c2, rfl, hcl2, hq2⟩
        obtain ⟨x, hx⟩ : ∃ x, a[i] = x := ⟨_, rfl⟩
        obtain ⟨y, hy⟩ : ∃ y, b[i] = y := ⟨_, rfl⟩
        rw [hx] at hq1d hbq hbl2 k00 hS
        rw [hy] at hq2d k10 hS
        have hx' := hid hx
        have hy' := hid hy
        clear hx hy hc1 hc2 hq1 hq2 hcl1 hcl2
        by_cases hxy : x = y
        · have hn : Hid (∀ (hp : i < a.length) (hq : i < b.length), a[i] = b[i]) := hid fun _ _ => by rw [hx'.out, hy'.out, hxy]
          have hb := hid (decide_eq_true hxy)
          clear hxy
          go_wp2_with fail
          go_region_held3 (fun w' => w'.cell? (adr ao i) = some (.slice a1 x.length c1) ∧ w'.cell? (adr bo i) = some (.slice a2 y.length c2))
            (first | exact hS.out _ t1 | go_keep)
            ((go_at_call 52; (with_reducible refine (rqsamelist X wr.drew _ _ x y hq1d hq2d hbq.out hbl2.out).mono ?_); rintro ee w5 ⟨t1, rfl⟩; rw [hb.out]))
          have hE5 := hE.trans (hEd.trans t1)
          clear k00 k10
          go_wp2_with fail
          go_roundw
          case rel => exact ⟨i + 1, by go_num, by omega, upto_succ hok.out hn.out, hE5⟩
          case measure => simp [intOf]; omega
        · have hv : Hid (false = decide (a = b)) := hid (by
            symm
            rw [decide_eq_false_iff_not]
            intro h; subst h; exact hxy (hx'.out.symm.trans hy'.out))
          have hb := hid (decide_eq_false hxy)
          clear hxy
          go_wp2_with fail
          go_region_held3 (fun w' => w'.cell? (adr ao i) = some (.slice a1 x.length c1) ∧ w'.cell? (adr bo i) = some (.slice a2 y.length c2))
            (first | exact hS.out _ t1 | go_keep)
            ((go_at_call 52; (with_reducible refine (rqsamelist X wr.drew _ _ x y hq1d hq2d hbq.out hbl2.out).mono ?_); rintro ee w5 ⟨t1, rfl⟩; rw [hb.out]))
          have hE5 := hE.trans (hEd.trans t1)
          clear k00 k10
          go_wp2_with fail
          go_ret
          exact ⟨hE5, ret_bool hv.out⟩
      · have hv : Hid (true = decide (a = b)) := hid (by
          symm
          rw [decide_eq_true_eq]
          exact ratlists_eq hlen'.out fun p hp => hok.out p (by omega))
        go_wp2_with fail
        go_ret
        exact ⟨hE, ret_bool hv.out⟩
  · have hne : ((a.length : Int) != b.length) = true := bneT (by omega)
    have hv : Hid (false = decide (a = b)) := hid (by
      symm
      rw [decide_eq_false_iff_not]
      intro h; subst h; exact hlen rfl)
    clear hlen
    go_enter Tryz.func23, Tryz.ntmps23
    go_wp2_with fail
    go_ret
    exact ⟨ExtX.refl _, ret_bool hv.out⟩
end Go.Proofs.YtjbhcniiioepgaaGreat


namespace Go.Lin
open Go.Lim
theorem awakeL : redP [[0, 2], [1, 1]] 2 = ([[1, 0], [0, 1]], [0, 1]) := by decide +kernel
theorem lg_le_one {n : Nat} (h : n < 4294967296) : lg n ≤ 1 := by
  by_cases h0 : n = 0
  · subst h0; simp [lg_zero]
  · rw [lg_one_iff (by omega) h]; exact Nat.le_refl _
theorem hq_small {z : Int} (h : z.natAbs < 4294967296) : hq (z : Rat) ≤ 1 := hq_int z 1 (lg_le_one h) (Nat.le_refl _)
theorem BM.hb {B : Nat} {m : Mat} (h : Go.Rep.BM B m) (hB : 1 ≤ B) : HB B m := fun i j => by
  unfold ent
  by_cases hi : i < m.length
  · by_cases hj : j < (m[i]).length
    · have := h m[i] (List.getElem_mem _) (m[i])[j] (List.getElem_mem _)
      simpa [List.getD_eq_getElem?_getD, hi, hj] using this
    · rw [getD_row hi, List.getD_eq_getElem?_getD, List.getElem?_eq_none (by omega)]
      simpa [hq_zero] using hB
  · rw [List.getD_eq_getElem?_getD (l := m), List.getElem?_eq_none (by omega)]
    simpa [hq_zero] using hB
end Go.Lin
namespace Go.Rep
open Go.RowKit Go.Lim
theorem rc_lit2 {X : Nat → Bool} {w : World} {e : TypeId} (hX : HX X w) {u v : Value} {x y : Rat} (hu : QC (mk X w) u x) (hv : QC (mk X w) v y) {arr : Array Value} (harr : arr = (cellsL u ++ cellsL v).toArray) : RC (mk X (w.alloc (.cells arr e))) (.slice (some ⟨w.heap.size, 0, none⟩) 2 2) [x, y] := by
  have := OL.lit (w := w) (base := w.heap.size) (e := e) QC.elem hX (Nat.le_refl _) [u, v] [x, y] arr (by rw [harr]; simp) rfl (fun i hi hi' => by
    match i, hi with
    | 0, _ => exact hu
    | 1, _ => exact hv) (by simp)
  exact ⟨_, _, rfl, Nat.le_refl _, this.sl QC.elem⟩
theorem mc_lit2 {X : Nat → Bool} {w : World} {e : TypeId} (hX : HX X w) {u v : Value} {x y : List Rat} (hu : RC (mk X w) u x) (hv : RC (mk X w) v y) {arr : Array Value} (harr : arr = (cellsL u ++ cellsL v).toArray) : MC (mk X (w.alloc (.cells arr e))) (.slice (some ⟨w.heap.size, 0, none⟩) 2 2) [x, y] := by
  have := OL.lit (w := w) (base := w.heap.size) (e := e) RC.elem hX (Nat.le_refl _) [u, v] [x, y] arr (by rw [harr]; simp) rfl (fun i hi hi' => by
    match i, hi with
    | 0, _ => exact hu
    | 1, _ => exact hv) (by simp)
  exact ⟨_, _, rfl, Nat.le_refl _, this.sl RC.elem⟩
theorem pv_lit2 {X : Nat → Bool} {w : World} {e : TypeId} (hX : HX X w) (x y : Nat) {arr : Array Value} (harr : arr = #[.int .i64 (x : Int), .int .i64 (y : Int)]) : SlV (NatIn .i64) 1 (mk X (w.alloc (.cells arr e))) (.slice (some ⟨w.heap.size, 0, none⟩) 2 2) [x, y] := by
  have := OL.lit (w := w) (base := w.heap.size) (e := e) (NatIn.elem .i64) hX (Nat.le_refl _) [.int .i64 (x : Int), .int .i64 (y : Int)] [x, y] arr (by rw [harr]; simp [cellsL, Value.cells]) rfl (fun i hi hi' => by
    match i, hi with
    | 0, _ => rfl
    | 1, _ => rfl) (by simp)
  exact ⟨_, _, rfl, Nat.le_refl _, this.sl (NatIn.elem .i64)⟩
end Go.Rep
namespace Go.Proofs.YtjbhcniiioepgaaGreat
open Go.RowKit Go.Rep Go.Lim Go.Lin

set_option maxRecDepth 100000 in
set_option maxHeartbeats 800000 in
theorem awake6_any (w : World) : Calls Tryz.prog 22 #[] w (BOut w true) := by
  have hX := HX.none w
  go_enter Tryz.func22, Tryz.ntmps22
  go_wp2_with fail
  refine (rqfrom noY w 0 hX (by omega) (by omega)).mono ?_
  rintro e w1 ⟨hE1, u1, rfl, hu1⟩
  obtain ⟨s1, a1, n1, c1, d1, k1, e1, rfl⟩ := hu1.shape
  go_wp2_with fail
  refine (rqfrom noY w1 2 (hX.ext hE1) (by omega) (by omega)).mono ?_
  rintro e w2 ⟨hE2, u2, rfl, hu2⟩
  obtain ⟨s2, a2, n2, c2, d2, k2, e2, rfl⟩ := hu2.shape
  have hX2 := (hX.ext hE1).ext hE2
  have hA := rc_lit2 (e := 31) hX2 (mkx QC.mono hu1 hE2) hu2 rfl
  go_wp2_with fail
  obtain ⟨w3, hw3, hE3⟩ : ∃ w3, w2.alloc (.cells (cellsL (.agg #[.bool s1, .slice a1 n1 c1, .slice d1 k1 e1]) ++ cellsL (.agg #[.bool s2, .slice a2 n2 c2, .slice d2 k2 e2])).toArray 31) = w3 ∧ Ext w2 w3 := ⟨_, rfl, (ExtX.refl w2).alloc _⟩
  change Calls _ _ _ (w2.alloc (.cells (cellsL (.agg #[.bool s1, .slice a1 n1 c1, .slice d1 k1 e1]) ++ cellsL (.agg #[.bool s2, .slice a2 n2 c2, .slice d2 k2 e2])).toArray 31)) _
  rw [hw3] at hA ⊢
  obtain ⟨b3, hb3⟩ : ∃ b, w2.heap.size = b := ⟨_, rfl⟩
  rw [hb3] at hA ⊢
  clear hw3 hb3
  have hX3 := hX2.ext hE3
  refine (rqfrom noY w3 1 hX3 (by omega) (by omega)).mono ?_
  rintro e w4 ⟨hE4, u4, rfl, hu4⟩
  obtain ⟨s4, a4, n4, c4, d4, k4, e4, rfl⟩ := hu4.shape
  have hX4 := hX3.ext hE4
  go_wp2_with fail
  refine (rqfrom noY w4 1 hX4 (by omega) (by omega)).mono ?_
  rintro e w5 ⟨hE5, u5, rfl, hu5⟩
  obtain ⟨s5, a5, n5, c5, d5, k5, e5, rfl⟩ := hu5.shape
  have hX5 := hX4.ext hE5
  have hB := rc_lit2 (e := 31) hX5 (mkx QC.mono hu4 hE5) hu5 rfl
  have hE6 : Ext w5 (w5.alloc (.cells (cellsL (.agg #[.bool s4, .slice a4 n4 c4, .slice d4 k4 e4]) ++ cellsL (.agg #[.bool s5, .slice a5 n5 c5, .slice d5 k5 e5])).toArray 31)) := (ExtX.refl w5).alloc _
  have hX6 := hX5.ext hE6
  have hA6 := mkx RC.mono hA (hE4.trans (hE5.trans hE6))
  have hM := mc_lit2 (e := 33) hX6 hA6 hB rfl
  have hE7 : Ext w5 ((w5.alloc (.cells (cellsL (.agg #[.bool s4, .slice a4 n4 c4, .slice d4 k4 e4]) ++ cellsL (.agg #[.bool s5, .slice a5 n5 c5, .slice d5 k5 e5])).toArray 31)).alloc (.cells (cellsL (.slice (some ⟨b3, 0, none⟩) 2 2) ++ cellsL (.slice (some ⟨w5.heap.size, 0, none⟩) 2 2)).toArray 33)) := hE6.alloc _
  go_wp2_with fail
  change Calls _ _ _ ((w5.alloc (.cells (cellsL (.agg #[.bool s4, .slice a4 n4 c4, .slice d4 k4 e4]) ++ cellsL (.agg #[.bool s5, .slice a5 n5 c5, .slice d5 k5 e5])).toArray 31)).alloc (.cells (cellsL (.slice (some ⟨b3, 0, none⟩) 2 2) ++ cellsL (.slice (some ⟨w5.heap.size, 0, none⟩) 2 2)).toArray 33)) _
  have hM7 : MC (mk noY ((w5.alloc (.cells (cellsL (.agg #[.bool s4, .slice a4 n4 c4, .slice d4 k4 e4]) ++ cellsL (.agg #[.bool s5, .slice a5 n5 c5, .slice d5 k5 e5])).toArray 31)).alloc (.cells (cellsL (.slice (some ⟨b3, 0, none⟩) 2 2) ++ cellsL (.slice (some ⟨w5.heap.size, 0, none⟩) 2 2)).toArray 33))) (.slice (some ⟨w5.heap.size + 1, 0, none⟩) 2 2) [[0, 2], [1, 1]] := by
    have e0 : ((0 : Int) : Rat) = 0 := by decide +kernel
    have e1 : ((1 : Int) : Rat) = 1 := by decide +kernel
    have e2 : ((2 : Int) : Rat) = 2 := by decide +kernel
    rw [e0, e1, e2] at hM
    simpa using hM
  obtain ⟨w7, hw7⟩ : ∃ w7, ((w5.alloc (.cells (cellsL (.agg #[.bool s4, .slice a4 n4 c4, .slice d4 k4 e4]) ++ cellsL (.agg #[.bool s5, .slice a5 n5 c5, .slice d5 k5 e5])).toArray 31)).alloc (.cells (cellsL (.slice (some ⟨b3, 0, none⟩) 2 2) ++ cellsL (.slice (some ⟨w5.heap.size, 0, none⟩) 2 2)).toArray 33)) = w7 := ⟨_, rfl⟩
  rw [hw7] at hM7 hE7 ⊢
  have hE07 : Ext w w7 := (hE1.trans (hE2.trans (hE3.trans (hE4.trans hE5)))).trans hE7
  have hX7 := hX.ext hE07
  have hbm : BM 1 [[0, 2], [1, 1]] := by
    intro r hr q hqm
    have h0 : hq 0 ≤ 1 := hq_small (z := 0) (by decide)
    have h1 : hq 1 ≤ 1 := hq_small (z := 1) (by decide)
    have h2 : hq 2 ≤ 1 := hq_small (z := 2) (by decide)
    simp only [List.mem_cons, List.not_mem_nil, or_false] at hr
    rcases hr with rfl | rfl <;> simp only [List.mem_cons, List.not_mem_nil, or_false] at hqm <;> rcases hqm with rfl | rfl <;> assumption
  clear hM hw7 hA hB hA6 hE6
  have hred := preduce_ok noY w7 _ _ hX7 (hM7.mv (fun r hr q hq => Nat.le_trans (hbm r hr q hq) (by decide))) (by decide) (tame_of (n := 2) ⟨rfl, by intro r hr; simp only [List.mem_cons, List.not_mem_nil, or_false] at hr; rcases hr with rfl | rfl <;> rfl⟩ (BM.hb hbm (by decide)) (by decide))
  have hcl : colsL [[(0 : Rat), 2], [1, 1]] = 2 := rfl
  rw [hcl, awakeL] at hred
  refine hred.mono ?_
  rintro e w8 ⟨hE8, u8, v8, rfl, hu8, hv8⟩
  obtain ⟨ao, ca, rfl, hca, hsa⟩ := hu8
  obtain ⟨bo, cb, rfl, hcb, hsb⟩ := hv8
  have hX8 := hX7.ext hE8
  go_wp2_with fail
  have hE9 : Ext w8 (w8.alloc (.cells #[.int .i64 0, .int .i64 1] 3)) := (ExtX.refl w8).alloc _
  have hlit : SlV (NatIn .i64) 1 (mk noY (w8.alloc (.cells #[.int .i64 0, .int .i64 1] 3))) (.slice (some ⟨w8.heap.size, 0, none⟩) 2 2) [0, 1] := pv_lit2 hX8 0 1 rfl
  have hsb9 := hsb.mono (NatIn.mono _) (mk_ext hE9)
  have hsa9 := hsa.mono RC.mono (mk_ext hE9)
  obtain ⟨w9, hw9⟩ : ∃ w9, w8.alloc (.cells #[.int .i64 0, .int .i64 1] 3) = w9 := ⟨_, rfl⟩
  obtain ⟨b8, hb8⟩ : ∃ b, w8.heap.size = b := ⟨_, rfl⟩
  rw [hw9] at hE9 hlit hsb9 hsa9 ⊢
  rw [hb8] at hlit ⊢
  clear hw9 hb8
  have hX9 := hX8.ext hE9
  obtain ⟨lo, cl, heq, hcl9, hsl9⟩ := hlit
  simp only [Value.slice.injEq] at heq
  obtain ⟨rfl, _, rfl⟩ := heq
  refine (rsamei_any noY _ _ [0, 1] [0, 1] _ _ w9 hsb9 hsl9 (by decide)).mono ?_
  rintro e w10 ⟨rfl, m10, hw10⟩
  have hE10 : Ext w9 w10 := by rw [hw10]; exact (ExtX.refl w9).drewN _
  clear hw10
  have hX10 := hX9.ext hE10
  have hee : ([0, 1] == [0, 1]) = true := by decide
  rw [hee]
  clear hee
  go_wp2_with fail
  refine (rqfrom noY w10 1 hX10 (by omega) (by omega)).mono ?_
  rintro e w11 ⟨hE11, u11, rfl, hu11⟩
  obtain ⟨s11, a11, n11, c11, d11, k11, e11, rfl⟩ := hu11.shape
  have hX11 := hX10.ext hE11
  have hA := rc_lit2 (e := 31) hX11 hu11 (QC.zero _) rfl
  go_wp2_with fail
  obtain ⟨w12, hw12, hE12⟩ : ∃ w12, w11.alloc (.cells (cellsL (.agg #[.bool s11, .slice a11 n11 c11, .slice d11 k11 e11]) ++ cellsL (.agg #[.bool false, .slice none 0 0, .slice none 0 0])).toArray 31) = w12 ∧ Ext w11 w12 := ⟨_, rfl, (ExtX.refl w11).alloc _⟩
  change Calls _ _ _ (w11.alloc (.cells (cellsL (.agg #[.bool s11, .slice a11 n11 c11, .slice d11 k11 e11]) ++ cellsL (.agg #[.bool false, .slice none 0 0, .slice none 0 0])).toArray 31)) _
  rw [hw12] at hA ⊢
  obtain ⟨b11, hb11⟩ : ∃ b, w11.heap.size = b := ⟨_, rfl⟩
  rw [hb11] at hA ⊢
  clear hw12 hb11
  have hX12 := hX11.ext hE12
  refine (rqfrom noY w12 1 hX12 (by omega) (by omega)).mono ?_
  rintro e w13 ⟨hE13, u13, rfl, hu13⟩
  obtain ⟨s13, a13, n13, c13, d13, k13, e13, rfl⟩ := hu13.shape
  have hX13 := hX12.ext hE13
  have hB := rc_lit2 (e := 31) hX13 (QC.zero _) hu13 rfl
  have hE14 : Ext w13 (w13.alloc (.cells (cellsL (.agg #[.bool false, .slice none 0 0, .slice none 0 0]) ++ cellsL (.agg #[.bool s13, .slice a13 n13 c13, .slice d13 k13 e13])).toArray 31)) := (ExtX.refl w13).alloc _
  have hX14 := hX13.ext hE14
  have hA14 := mkx RC.mono hA (hE13.trans hE14)
  have hM := mc_lit2 (e := 33) hX14 hA14 hB rfl
  have hE15 : Ext w13 ((w13.alloc (.cells (cellsL (.agg #[.bool false, .slice none 0 0, .slice none 0 0]) ++ cellsL (.agg #[.bool s13, .slice a13 n13 c13, .slice d13 k13 e13])).toArray 31)).alloc (.cells (cellsL (.slice (some ⟨b11, 0, none⟩) 2 2) ++ cellsL (.slice (some ⟨w13.heap.size, 0, none⟩) 2 2)).toArray 33)) := hE14.alloc _
  go_wp2_with fail
  change Calls _ _ _ ((w13.alloc (.cells (cellsL (.agg #[.bool false, .slice none 0 0, .slice none 0 0]) ++ cellsL (.agg #[.bool s13, .slice a13 n13 c13, .slice d13 k13 e13])).toArray 31)).alloc (.cells (cellsL (.slice (some ⟨b11, 0, none⟩) 2 2) ++ cellsL (.slice (some ⟨w13.heap.size, 0, none⟩) 2 2)).toArray 33)) _
  have hM7 : MC (mk noY ((w13.alloc (.cells (cellsL (.agg #[.bool false, .slice none 0 0, .slice none 0 0]) ++ cellsL (.agg #[.bool s13, .slice a13 n13 c13, .slice d13 k13 e13])).toArray 31)).alloc (.cells (cellsL (.slice (some ⟨b11, 0, none⟩) 2 2) ++ cellsL (.slice (some ⟨w13.heap.size, 0, none⟩) 2 2)).toArray 33))) (.slice (some ⟨w13.heap.size + 1, 0, none⟩) 2 2) [[1, 0], [0, 1]] := by
    have e1 : ((1 : Int) : Rat) = 1 := by decide +kernel
    rw [e1] at hM
    simpa using hM
  obtain ⟨w15, hw15⟩ : ∃ w15, ((w13.alloc (.cells (cellsL (.agg #[.bool false, .slice none 0 0, .slice none 0 0]) ++ cellsL (.agg #[.bool s13, .slice a13 n13 c13, .slice d13 k13 e13])).toArray 31)).alloc (.cells (cellsL (.slice (some ⟨b11, 0, none⟩) 2 2) ++ cellsL (.slice (some ⟨w13.heap.size, 0, none⟩) 2 2)).toArray 33)) = w15 := ⟨_, rfl⟩
  rw [hw15] at hM7 hE15 ⊢
  clear hM hw15 hA hB hA14 hE14
  have hEe : Ext w8 w15 := (hE9.trans (hE10.trans (hE11.trans (hE12.trans hE13)))).trans hE15
  have hr15 : MC (mk noY w15) (.slice ao 2 ca) [[1, 0], [0, 1]] := ⟨ao, ca, rfl, hca, hsa.mono RC.mono (mk_ext hEe)⟩
  have hbm2 : BM 68719476736 [[1, 0], [0, 1]] := by
    intro r hr q hqm
    have h0 : hq 0 ≤ 68719476736 := Nat.le_trans (hq_small (z := 0) (by decide)) (by decide)
    have h1 : hq 1 ≤ 68719476736 := Nat.le_trans (hq_small (z := 1) (by decide)) (by decide)
    simp only [List.mem_cons, List.not_mem_nil, or_false] at hr
    rcases hr with rfl | rfl <;> simp only [List.mem_cons, List.not_mem_nil, or_false] at hqm <;> rcases hqm with rfl | rfl <;> assumption
  have hrl2 : ∀ r ∈ [[(1 : Rat), 0], [0, 1]], r.length ≤ 1099511627776 := by
    intro r hr
    simp only [List.mem_cons, List.not_mem_nil, or_false] at hr
    rcases hr with rfl | rfl <;> simp
  have hsl := rqsamelists noY w15 _ _ _ _ hr15 hM7 hbm2 (by simp) hrl2
  have hee : decide ([[(1 : Rat), 0], [0, 1]] = [[1, 0], [0, 1]]) = true := decide_eq_true rfl
  rw [hee] at hsl
  refine hsl.mono ?_
  rintro e w16 ⟨hE16, rfl⟩
  go_wp2_with fail
  go_ret
  exact ⟨hE07.trans (hE8.trans (hEe.trans hE16)), rfl⟩
end Go.Proofs.YtjbhcniiioepgaaGreat


namespace Go.Proofs.YtjbhcniiioepgaaGreat
open Go.RowKit Go.Rep Go.Lim Go.Lin

theorem same_lists (w : World) (u v : Value) (x : Mat) (hu : MC (mk noY w) u x) (hv : MC (mk noY w) v x) (h : OkM x) : Calls Tryz.prog 23 #[u, v] w (BOut w true) := by
  have := rqsamelists noY w u v x x hu hv h.1 h.2.1 h.2.2
  rwa [decide_eq_true rfl] at this
theorem same_list (w : World) (u v : Value) (x : List Rat) (hu : RC (mk noY w) u x) (hv : RC (mk noY w) v x) (h : OkR x) : Calls Tryz.prog 52 #[u, v] w (BOut w true) := by
  have := rqsamelist noY w u v x x hu hv h.1 h.2
  rwa [decide_eq_true rfl] at this
theorem light_l {l : List RawQ} {c : Nat} (h : lightL l c = true) : l.length ≤ c ∧ ∀ q ∈ l, Few 8 q := of_decide_eq_true h
theorem small_m {m : List (List RawQ)} (h : smallM m = true) : m.length ≤ 4 ∧ ∀ x ∈ m, x.length ≤ 4 ∧ ∀ q ∈ x, Few 2 q := of_decide_eq_true h

end Go.Proofs.YtjbhcniiioepgaaGreat


namespace Go.Proofs.YtjbhcniiioepgaaGreat
open Go.RowKit Go.Rep Go.Lim Go.Lin

set_option maxRecDepth 100000 in
set_option maxHeartbeats 800000 in
theorem solv_any (w : World) (um ub : Value) (m : List (List RawQ)) (b : List RawQ) (hum : MR (mk noY w) um m) (hub : RR (mk noY w) ub b) : Calls Tryz.prog 7 #[um, ub] w (BOut w true) := by
  have l1 := small_any noY w um m hum
  have l2 := hid (fun w' (h : Ext w w') => lightlist_any noY w' ub b 5 (mkx RR.mono hub h) (by omega))
  cases h1 : smallM m
  · rw [h1] at l1
    clear h1
    go_enter Tryz.func7, Tryz.ntmps7
    go_wp2_with fail
    refine l1.mono ?_
    rintro e w1 ⟨hE1, rfl⟩
    clear l1
    go_wp2_with fail
    refine (awake6_any w1).mono ?_
    rintro e w2 ⟨hE2, rfl⟩
    go_wp2_with fail
    go_ret
    exact ⟨hE1.trans hE2, rfl⟩
  rw [h1] at l1
  cases h2 : lightL b 5
  · rw [h2] at l2
    clear h1 h2
    go_enter Tryz.func7, Tryz.ntmps7
    go_wp2_with fail
    refine l1.mono ?_
    rintro e w1 ⟨hE1, rfl⟩
    have l22 := l2.out w1 hE1
    clear l1
    go_wp2_with fail
    refine l22.mono ?_
    rintro e w2 ⟨hE2, rfl⟩
    clear l22
    go_wp2_with fail
    refine (awake6_any w2).mono ?_
    rintro e w3 ⟨hE3, rfl⟩
    go_wp2_with fail
    go_ret
    exact ⟨hE1.trans (hE2.trans hE3), rfl⟩
  rw [h2] at l2
  obtain ⟨n1, f1⟩ := small_m h1
  obtain ⟨n2, f2⟩ := light_l h2
  have g1 : ∀ r ∈ m, ∀ x ∈ r, Few 68719476736 x := fun r hr x hx => ⟨Nat.le_trans ((f1 r hr).2 x hx).1 (by decide), Nat.le_trans ((f1 r hr).2 x hx).2 (by decide)⟩
  have g2 : ∀ x ∈ b, Few 68719476736 x := fun x hx => ⟨Nat.le_trans (f2 x hx).1 (by decide), Nat.le_trans (f2 x hx).2 (by decide)⟩
  have hma := hum.mv g1
  have hrb := hub.rv g2
  have ba : BM 8 (valM m) := fun r hr q hq => Nat.le_trans (hum.bm (fun r hr => (f1 r hr).2) (by decide) r hr q hq) (by decide)
  have bb := hub.br f2 (by decide)
  have la : (valM m).length ≤ 4 := by simp [valM]; omega
  obtain ⟨x, c1, p1, q1, o1⟩ := pair_sol (valM m) (b.map valQ) 8 la ba bb (by decide) (by decide)
  obtain ⟨N, c2, p2, q2, o2⟩ := pair_null (valM m) 8 la ba (by decide) (by decide)
  have hma' := hid (fun w' (h : Ext w w') => mkx MV.mono hma h)
  have hrb' := hid (fun w' (h : Ext w w') => mkx RV.mono hrb h)
  have P1 := hid p1; have Q1 := hid q1; have P2 := hid p2; have Q2 := hid q2
  clear h1 h2 f1 f2 g1 g2 hma hrb ba bb la p1 q1 p2 q2 hum hub n1 n2
  go_enter Tryz.func7, Tryz.ntmps7
  go_wp2_with fail
  refine l1.mono ?_
  rintro e w1 ⟨e1, rfl⟩
  have l22 := l2.out w1 e1
  clear l1
  go_wp2_with fail
  refine l22.mono ?_
  rintro e w2 ⟨hE2, rfl⟩
  have e2 := e1.trans hE2
  clear l22
  go_wp2_with fail
  refine (P1.out w2 um ub (hma'.out w2 e2) (hrb'.out w2 e2)).mono ?_
  rintro e w3 ⟨hE3, u3, rfl, hu3⟩
  have e3 := e2.trans hE3
  go_wp2_with fail
  refine (Q1.out w3 um ub (hma'.out w3 e3) (hrb'.out w3 e3)).mono ?_
  rintro e w4 ⟨hE4, u4, rfl, hu4⟩
  have e4 := e3.trans hE4
  go_wp2_with fail
  refine (P2.out w4 um (hma'.out w4 e4)).mono ?_
  rintro e w5 ⟨hE5, u5, rfl, hu5⟩
  have e5 := e4.trans hE5
  go_wp2_with fail
  refine (Q2.out w5 um (hma'.out w5 e5)).mono ?_
  rintro e w6 ⟨hE6, u6, rfl, hu6⟩
  have e6 := e5.trans hE6
  go_wp2_with fail
  refine (awake6_any w6).mono ?_
  rintro e w7 ⟨hE7, rfl⟩
  have e7 := e6.trans hE7
  have t47 := hE5.trans (hE6.trans hE7)
  go_wp2_with fail
  refine (same_list w7 u3 u4 x (mkx RC.mono hu3 (hE4.trans t47)) (mkx RC.mono hu4 t47) o1).mono ?_
  rintro e w8 ⟨hE8, rfl⟩
  have e8 := e7.trans hE8
  go_wp2_with fail
  refine (same_lists w8 u5 u6 N (mkx MC.mono hu5 (hE6.trans (hE7.trans hE8))) (mkx MC.mono hu6 (hE7.trans hE8)) o2).mono ?_
  rintro e w9 ⟨hE9, rfl⟩
  go_wp2_with fail
  go_ret
  exact ⟨e8.trans hE9, rfl⟩
end Go.Proofs.YtjbhcniiioepgaaGreat


namespace Go.Proofs.YtjbhcniiioepgaaGreat
open Go.ChangeShapes Go.WideShapes Go.ChangeAt Go.RowKit Go.Rep Go.Deep
section
variable {H : Type} {enc : TypeId × Value → H} {P : Program} {w : World} {base : Nat} {spare : Nat → Bool} {held : Bool}
end
end Go.Proofs.YtjbhcniiioepgaaGreat


namespace Go.Proofs.YtjbhcniiioepgaaGreat.seat
open Go.RowKit
theorem and_t {a b : Bool} (h1 : a = true) (h2 : b = true) : (a && b) = true := by rw [h1, h2]; rfl
theorem laid : laidOutB Tryz.pinned.checked.prog = true := by kernel_rfl
theorem maps : mapsRowed Tryz.pinned.checked.prog = true := by kernel_rfl
theorem stops : (Program.stops Tryz.pinned.checked.prog == []) = true := by kernel_rfl
theorem knobs : (Program.stopKnobs Tryz.pinned.checked.prog == []) = true := by kernel_rfl
theorem heard : Program.stopsHeard Tryz.pinned.checked.prog = true := by kernel_rfl
theorem enter : Program.mayEnter Tryz.pinned.checked.prog = true := by kernel_rfl
theorem lifts : (Rows.matrixReducedFormIsUniqueRow.lifted == Program.liftsFinal Tryz.pinned.checked.prog) = true := by kernel_rfl
theorem make : (Program.make Tryz.pinned.checked.prog == some Rows.matrixReducedFormIsUniqueRow.make) = true := by kernel_rfl
theorem plain : (Rows.matrixReducedFormIsUniqueRow.plainKeys == Program.plainKeys Tryz.pinned.checked.prog) = true := by kernel_rfl
end Go.Proofs.YtjbhcniiioepgaaGreat.seat

